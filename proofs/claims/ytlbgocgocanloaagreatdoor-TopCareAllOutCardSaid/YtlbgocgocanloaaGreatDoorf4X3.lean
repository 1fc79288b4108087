/- The reference: a state copied. -/
import Derived.Test.YtlbgocgocanloaaGreatDoorf4X1
import Derived.Test.YtlbgocgocanloaaGreatDoorf4E1
namespace Go.Proofs.YtlbgocgocanloaaGreatDoor
open Go.RowKit
/-- a state in memory of its own from block B on -/
structure OwnSt (w : World) (B g1 g2 ng nd c1 c2 : Nat) (s : Tr) : Prop where
  og : w.ownsRow B 4 1 (.slice (some ⟨g1, 0, none⟩) ng c1) ng (s.gates.map .bool)
  od : w.ownsRow B 4 1 (.slice (some ⟨g2, 0, none⟩) nd c2) nd (s.doors.map .bool)
  ne : g1 ≠ g2
theorem OwnSt.at_ {w : World} {B g1 g2 ng nd c1 c2 : Nat} {s : Tr} (h : OwnSt w B g1 g2 ng nd c1 c2 s) (h1 : ng ≤ 1000000000) (h2 : nd ≤ 1000000000) : StAt w w.heap.size (some ⟨g1, 0, none⟩) (some ⟨g2, 0, none⟩) ng nd s :=
  ⟨by simpa using h.og.1, by simpa using h.od.1, Rd_of_own h.og, Rd_of_own h.od, h1, h2⟩
def CopyPost (w : World) (s : Tr) (ng nd : Nat) (e : Ending) (w' : World) : Prop :=
  ∃ g1 g2 c1 c2, e = .returned (stV s (some ⟨g1, 0, none⟩) (some ⟨g2, 0, none⟩) ng nd c1 c2) ∧ OwnSt w' w.heap.size g1 g2 ng nd c1 c2 s ∧ Below w.heap.size w w'
theorem bools_one (l : List Bool) : ∀ u ∈ l.map Value.bool, u.oneCell' = true := by
  intro u hu
  obtain ⟨b, _, rfl⟩ := List.mem_map.1 hu
  rfl
set_option maxRecDepth 100000 in
set_option maxHeartbeats 8000000 in
theorem Copy_any (w : World) (B : Nat) (Ag Ad : Option Addr) (ng nd cg cd : Nat) (s : Tr) (h : StAt w B Ag Ad ng nd s) (hB : B ≤ w.heap.size) (h1 : ng ≤ 1000000) (h2 : nd ≤ 1000000) :
    Calls Tryz.prog 26 #[stV s Ag Ad ng nd cg cd] w (CopyPost w s ng nd) := by
  obtain ⟨i1, hi1, hy0, hy1, hy2⟩ := info_parts info4
  have hb0 : Below w.heap.size w ((w.alloc (.cells #[.bool s.mv, .bool s.al, .int .i64 s.place, .slice Ag ng cg, .slice Ad nd cd] 52)).alloc (.cells #[.bool false, .bool false, .int .i64 0, .slice none 0 0, .slice none 0 0] 52)) :=
    ((Below.refl _ _).alloc (Nat.le_refl _) _).alloc (by simp) _
  have k1 : ((w.alloc (.cells #[.bool s.mv, .bool s.al, .int .i64 s.place, .slice Ag ng cg, .slice Ad nd cd] 52)).alloc (.cells #[.bool false, .bool false, .int .i64 0, .slice none 0 0, .slice none 0 0] 52)).heap[w.heap.size]? = some (.cells #[.bool s.mv, .bool s.al, .int .i64 s.place, .slice Ag ng cg, .slice Ad nd cd] 52 (0, 0)) := by
    rw [heapq_alloc, if_neg (by simp), heapq_alloc, if_pos rfl]
  have k2 : ((w.alloc (.cells #[.bool s.mv, .bool s.al, .int .i64 s.place, .slice Ag ng cg, .slice Ad nd cd] 52)).alloc (.cells #[.bool false, .bool false, .int .i64 0, .slice none 0 0, .slice none 0 0] 52)).heap[w.heap.size + 1]? = some (.cells #[.bool false, .bool false, .int .i64 0, .slice none 0 0, .slice none 0 0] 52 (0, 0)) := by
    rw [heapq_alloc, if_pos (by simp)]
  have hs0 : ((w.alloc (.cells #[.bool s.mv, .bool s.al, .int .i64 s.place, .slice Ag ng cg, .slice Ad nd cd] 52)).alloc (.cells #[.bool false, .bool false, .int .i64 0, .slice none 0 0, .slice none 0 0] 52)).heap.size = w.heap.size + 2 := by simp
  have HS := Lib.hid (h.below (hb0.mono hB))
  clear h
  unfold stV
  go_enter Tryz.func26, Tryz.ntmps26
  go_upto_region 1 with (fail)
  generalize ((w.alloc (.cells #[.bool s.mv, .bool s.al, .int .i64 s.place, .slice Ag ng cg, .slice Ad nd cd] 52)).alloc (.cells #[.bool false, .bool false, .int .i64 0, .slice none 0 0, .slice none 0 0] 52)) = W0 at *
  generalize hx : w.heap.size = x at *
  have HX := Lib.hid hx
  have HS0 := Lib.hid hs0
  have HB0 := Lib.hid hb0
  have K1 := Lib.hid k1
  have K2 := Lib.hid k2
  have a3 := cell_of_row W0 x 3 _ _ _ k1
  have a4 := cell_of_row W0 x 4 _ _ _ k1
  simp at a3 a4
  clear hx hb0 k1 k2 hs0
  have x3 := fun y : Xt W0 => y.cell a3
  have x4 := fun y : Xt W0 => y.cell a4
  refine wp_region_mid [] [1, 2, 5, 6] 5 [9, 10, 11] (fun w' => ∃ y : Xt W0, w' = y.1) (by kernel_rfl) (by kernel_rfl) ⟨⟨W0.drew, (Below.refl _ _).drew⟩, rfl⟩ ?_
  simp only [opsAt_nil, opsAt_cons, consOpt_some, List.getElem?_toArray, List.getElem?_cons_zero, List.getElem?_cons_succ]
  refine wpQuiet_nil ?_
  show wpQuiet _ _ _ _ _ _
  repeat (go_big_quiet_step (fail))
  refine wpQuiet_nil ?_
  show wpOrders _ _ _ _ _ _ _ _ W0.drew
  have hbd : Below W0.heap.size W0 W0.drew := (Below.refl _ _).drew
  have hsd : W0.heap.size ≤ W0.drew.heap.size := Nat.le_refl _
  generalize W0.drew = Wd at *
  clear x3 x4 a3 a4
  have hBW : B ≤ W0.heap.size := by have := HS0.out; omega
  have sz := HS0.out
  have HSZ := Lib.hid sz
  clear sz
  refine wpOrders_two (i := 0) (k := 4) (by kernel_rfl) ?_ ?_
  · unfold wpMid
    simp only [opsAt_nil, opsAt_cons, consOpt_some, List.getElem?_toArray, List.getElem?_cons_zero]
    go_wp2
    have hb1 : Below W0.heap.size W0 (Wd.alloc (.cells #[] 4)) := hbd.alloc hbd.size _
    have gaq : (Wd.alloc (.cells #[] 4)).heap[Wd.heap.size]? = some (.cells #[] 4 (0, 0)) := by rw [heapq_alloc, if_pos rfl]
    have gan : W0.heap.size ≤ Wd.heap.size := hbd.size
    refine onlyNormal_mk ⟨⟨⟨_, hb1⟩, rfl⟩, ?_⟩
    generalize Wd.heap.size = ga at *
    generalize Wd.alloc (.cells #[] 4) = w1 at *
    refine wpOrders_two (i := 3) (k := 4) (by kernel_rfl) ?_ ?_
    · unfold wpMid
      simp only [opsAt_nil, opsAt_cons, consOpt_some, List.getElem?_toArray, List.getElem?_cons_zero, List.getElem?_cons_succ]
      have hrd := HS.out.rg.below (hb1.mono hBW)
      refine wpList_append_copy w1 rfl _ _ 50 rfl W0.heap.size 4 i1 _ 1 1 Tryz.underlying50 hi1 hy0 hy1 hy2 rfl (by omega) ga rfl gaq gan B Ag ng cg (s.gates.map .bool) rfl (by rw [Nat.mul_one, List.length_map]; exact HS.out.lg) hrd (bools_one _) (by simp only [maxLen]; omega) (by omega) hb1.size ?_
      intro G1 c1 w2 own0 hgrow2 hat2
      have hb2 : Below W0.heap.size W0 w2 := hb1.grown hgrow2 hb1.size (fun k hk => by rw [← Option.some.inj hk]; exact gan)
      clear hrd
      refine onlyNormal_mk ⟨⟨⟨_, hb2⟩, rfl⟩, ?_⟩
      refine wpOrders_two (i := 4) (k := 8) (by kernel_rfl) ?_ ?_
      · unfold wpMid
        simp only [opsAt_nil, opsAt_cons, consOpt_some, List.getElem?_toArray, List.getElem?_cons_zero, List.getElem?_cons_succ]
        go_wp2
        have hb3 : Below W0.heap.size W0 (w2.alloc (.cells #[] 4)) := hb2.alloc hb2.size _
        have gbq : (w2.alloc (.cells #[] 4)).heap[w2.heap.size]? = some (.cells #[] 4 (0, 0)) := by rw [heapq_alloc, if_pos rfl]
        have gbn : W0.heap.size ≤ w2.heap.size := hb2.size
        have hG1 : G1 < w2.heap.size := (ownBlk own0 rfl).2.1
        have own0 := own0.alloc (.cells #[] 4)
        refine onlyNormal_mk ⟨⟨⟨_, hb3⟩, rfl⟩, ?_⟩
        generalize w2.heap.size = gb at *
        generalize w2.alloc (.cells #[] 4) = w3 at *
        refine wpOrders_two (i := 7) (k := 8) (by kernel_rfl) ?_ ?_
        · unfold wpMid
          simp only [opsAt_nil, opsAt_cons, consOpt_some, List.getElem?_toArray, List.getElem?_cons_zero, List.getElem?_cons_succ]
          have hrd := HS.out.rd.below (hb3.mono hBW)
          refine wpList_append_copy w3 rfl _ _ 50 rfl W0.heap.size 4 i1 _ 1 1 Tryz.underlying50 hi1 hy0 hy1 hy2 rfl (by omega) gb rfl gbq gbn B Ad nd cd (s.doors.map .bool) rfl (by rw [Nat.mul_one, List.length_map]; exact HS.out.ld) hrd (bools_one _) (by simp only [maxLen]; omega) (by omega) hb3.size ?_
          intro G2 c2 w4 own2 hgrow4 hat4
          have hb4 : Below W0.heap.size W0 w4 := hb3.grown hgrow4 hb3.size (fun k hk => by rw [← Option.some.inj hk]; exact gbn)
          clear hrd
          have hG1l : G1 < w3.heap.size := (ownBlk own0 rfl).2.1
          have own1 := ownsRow_keep own0 (fun k hk => hgrow4.block k (ownBlk own0 hk).2.1 (fun he => by have h1 : k = G1 := (by simpa [Value.ownBlock] using hk.symm); have h2 := Option.some.inj he; omega))
          have hne : G1 ≠ G2 := by rcases hat4 with h | h <;> omega
          refine onlyNormal_mk ⟨⟨⟨_, hb4⟩, rfl⟩, ?_⟩
          refine wpOrders_one (i := 8) (by kernel_rfl) ?_
          unfold wpMid
          simp only [opsAt_nil, opsAt_cons, consOpt_some, List.getElem?_toArray, List.getElem?_cons_zero, List.getElem?_cons_succ]
          go_wp2
          refine onlyNormal_mk ⟨⟨⟨_, hb4⟩, rfl⟩, ?_⟩
          refine wpOrders_zero ?_
          have sz := HSZ.out
          have bx : x < W0.heap.size := by omega
          have bx1 : x + 1 < W0.heap.size := by omega
          have bG : W0.heap.size ≤ G1 := (ownBlk own1 rfl).1
          have bD : W0.heap.size ≤ G2 := (ownBlk own2 rfl).1
          have k1 := (hb4.block x bx).trans K1.out
          have k2 := (hb4.block (x + 1) bx1).trans K2.out
          obtain ⟨a0, a1, a2, a3, a4⟩ := cells5 k1
          obtain ⟨t0, t1, t2, t3, t4, q0, q1, q2, q3, q4⟩ := res5 k2
          have p3 := frozen_of_row w4 x 3 _ _ k1
          have p4 := frozen_of_row w4 x 4 _ _ k1
          have m3 : (w4.setCell ⟨x, 3, none⟩ (.slice (some ⟨G1, 0, none⟩) ng c1)).cell? ⟨x, 4, none⟩ = some (.slice Ad nd cd) := by
            rw [cell_of_row _ x 4 #[.bool s.mv, .bool s.al, .int .i64 s.place, .slice (some ⟨G1, 0, none⟩) ng c1, .slice Ad nd cd] 52 (0, 0) (by rw [heapq_set, if_pos rfl, k1]; simp [objSet_cells])]
            rfl
          have hW2 : ((w4.setCell ⟨x, 3, none⟩ (.slice (some ⟨G1, 0, none⟩) ng c1)).setCell ⟨x, 4, none⟩ (.slice (some ⟨G2, 0, none⟩) nd c2)).heap[x]? = some (.cells #[.bool s.mv, .bool s.al, .int .i64 s.place, .slice (some ⟨G1, 0, none⟩) ng c1, .slice (some ⟨G2, 0, none⟩) nd c2] 52 (0, 0)) := by
            rw [heapq_set, if_pos rfl, heapq_set, if_pos rfl, k1]
            simp [objSet_cells]
          have hW1 : ((w4.setCell ⟨x, 3, none⟩ (.slice (some ⟨G1, 0, none⟩) ng c1)).setCell ⟨x, 4, none⟩ (.slice (some ⟨G2, 0, none⟩) nd c2)).heap[x + 1]? = some (.cells #[.bool false, .bool false, .int .i64 0, .slice none 0 0, .slice none 0 0] 52 (0, 0)) := by
            rw [heapq_set, if_neg (by omega), heapq_set, if_neg (by omega)]
            exact k2
          have hbE : Below x w ((w4.setCell ⟨x, 3, none⟩ (.slice (some ⟨G1, 0, none⟩) ng c1)).setCell ⟨x, 4, none⟩ (.slice (some ⟨G2, 0, none⟩) nd c2)) := ((HB0.out.trans (hb4.mono (by omega))).setCell (Nat.le_refl _) _).setCell (Nat.le_refl _) _
          have o1 := ownsRow_setCell_other (ownsRow_setCell_other own1 (a := ⟨x, 3, none⟩) (by simp [Value.ownBlock]; omega) (.slice (some ⟨G1, 0, none⟩) ng c1)) (a := ⟨x, 4, none⟩) (by simp [Value.ownBlock]; omega) (.slice (some ⟨G2, 0, none⟩) nd c2)
          have o2 := ownsRow_setCell_other (ownsRow_setCell_other own2 (a := ⟨x, 3, none⟩) (by simp [Value.ownBlock]; omega) (.slice (some ⟨G1, 0, none⟩) ng c1)) (a := ⟨x, 4, none⟩) (by simp [Value.ownBlock]; omega) (.slice (some ⟨G2, 0, none⟩) nd c2)
          have fs4 : (w4.setCell ⟨x, 3, none⟩ (.slice (some ⟨G1, 0, none⟩) ng c1)).frozen? ⟨x, 4, none⟩ = false := frozen_of_row _ x 4 #[.bool s.mv, .bool s.al, .int .i64 s.place, .slice (some ⟨G1, 0, none⟩) ng c1, .slice Ad nd cd] 52 (by rw [heapq_set, if_pos rfl, k1]; simp [objSet_cells])
          have O1 := Lib.hid o1
          have O2 := Lib.hid o2
          have HBE := Lib.hid hbE
          have HW1 := Lib.hid hW1
          have HW2 := Lib.hid hW2
          have HNE := Lib.hid hne
          clear o1 o2 hbE hW1 hW2 k1 k2 own1 own2 hb4 t0 t1 t2 t3 t4 q0 q1 q2 q3 q4 sz
          go_wp2
          refine onlyNormal_mk ?_
          generalize (w4.setCell ⟨x, 3, none⟩ (.slice (some ⟨G1, 0, none⟩) ng c1)).setCell ⟨x, 4, none⟩ (.slice (some ⟨G2, 0, none⟩) nd c2) = wE at *
          obtain ⟨e0, e1, e2, e3, e4⟩ := cells5 HW2.out
          obtain ⟨t0, t1, t2, t3, t4, q0, q1, q2, q3, q4⟩ := res5 HW1.out
          clear a0 a1 a2 a3 a4 p3 p4 m3 fs4
          have n1 : some (x + 1) ≠ some G1 := fun he => by have := Option.some.inj he; omega
          have n2 : some (x + 1) ≠ some G2 := fun he => by have := Option.some.inj he; omega
          have N1 := Lib.hid n1
          have N2 := Lib.hid n2
          clear n1 n2
          go_wp2
          refine bodyPost_ret (v := stV s (some ⟨G1, 0, none⟩) (some ⟨G2, 0, none⟩) ng nd c1 c2) (by simp [results, Tryz.results26, go_sem, stV, t0, t1, t2, t3, t4]) rfl ⟨G1, G2, c1, c2, rfl, ⟨?_, ?_, HNE.out⟩, ?_⟩
          · rw [HX.out]
            have o := O1.out
            refine ownsRow_more ?_ (show x ≤ W0.heap.size by omega)
            exact ownsRow_setCell_other (ownsRow_setCell_other (ownsRow_setCell_other (ownsRow_setCell_other (ownsRow_setCell_other o (Ne.symm N1.out) _) (Ne.symm N1.out) _) (Ne.symm N1.out) _) (Ne.symm N1.out) _) (Ne.symm N1.out) _
          · rw [HX.out]
            have o := O2.out
            refine ownsRow_more ?_ (show x ≤ W0.heap.size by omega)
            exact ownsRow_setCell_other (ownsRow_setCell_other (ownsRow_setCell_other (ownsRow_setCell_other (ownsRow_setCell_other o (Ne.symm N2.out) _) (Ne.symm N2.out) _) (Ne.symm N2.out) _) (Ne.symm N2.out) _) (Ne.symm N2.out) _
          · rw [HX.out]
            exact ((((HBE.out.setCell (by simp) _).setCell (by simp) _).setCell (by simp) _).setCell (by simp) _).setCell (by simp) _
        · unfold wpMid
          simp only [opsAt_nil, opsAt_cons, consOpt_some, List.getElem?_toArray, List.getElem?_cons_zero, List.getElem?_cons_succ]
          go_wp2
          refine onlyNormal_mk ⟨⟨⟨_, hb3⟩, rfl⟩, ?_⟩
          refine wpOrders_one (i := 7) (by kernel_rfl) ?_
          unfold wpMid
          simp only [opsAt_nil, opsAt_cons, consOpt_some, List.getElem?_toArray, List.getElem?_cons_zero, List.getElem?_cons_succ]
          have hrd := HS.out.rd.below (hb3.mono hBW)
          refine wpList_append_copy w3 rfl _ _ 50 rfl W0.heap.size 4 i1 _ 1 1 Tryz.underlying50 hi1 hy0 hy1 hy2 rfl (by omega) gb rfl gbq gbn B Ad nd cd (s.doors.map .bool) rfl (by rw [Nat.mul_one, List.length_map]; exact HS.out.ld) hrd (bools_one _) (by simp only [maxLen]; omega) (by omega) hb3.size ?_
          intro G2 c2 w7 own2 hgrow7 hat7
          have hb7 : Below W0.heap.size W0 w7 := hb3.grown hgrow7 hb3.size (fun k hk => by rw [← Option.some.inj hk]; exact gbn)
          clear hrd
          have hG1l : G1 < w3.heap.size := (ownBlk own0 rfl).2.1
          have own1 := ownsRow_keep own0 (fun k hk => hgrow7.block k (ownBlk own0 hk).2.1 (fun he => by have h1 : k = G1 := (by simpa [Value.ownBlock] using hk.symm); have h2 := Option.some.inj he; omega))
          have hne : G1 ≠ G2 := by rcases hat7 with h | h <;> omega
          refine onlyNormal_mk ⟨⟨⟨_, hb7⟩, rfl⟩, ?_⟩
          refine wpOrders_zero ?_
          have sz := HSZ.out
          have bx : x < W0.heap.size := by omega
          have bx1 : x + 1 < W0.heap.size := by omega
          have bG : W0.heap.size ≤ G1 := (ownBlk own1 rfl).1
          have bD : W0.heap.size ≤ G2 := (ownBlk own2 rfl).1
          have k1 := (hb7.block x bx).trans K1.out
          have k2 := (hb7.block (x + 1) bx1).trans K2.out
          obtain ⟨a0, a1, a2, a3, a4⟩ := cells5 k1
          obtain ⟨t0, t1, t2, t3, t4, q0, q1, q2, q3, q4⟩ := res5 k2
          have p3 := frozen_of_row w7 x 3 _ _ k1
          have p4 := frozen_of_row w7 x 4 _ _ k1
          have m3 : (w7.setCell ⟨x, 3, none⟩ (.slice (some ⟨G1, 0, none⟩) ng c1)).cell? ⟨x, 4, none⟩ = some (.slice Ad nd cd) := by
            rw [cell_of_row _ x 4 #[.bool s.mv, .bool s.al, .int .i64 s.place, .slice (some ⟨G1, 0, none⟩) ng c1, .slice Ad nd cd] 52 (0, 0) (by rw [heapq_set, if_pos rfl, k1]; simp [objSet_cells])]
            rfl
          have hW2 : ((w7.setCell ⟨x, 3, none⟩ (.slice (some ⟨G1, 0, none⟩) ng c1)).setCell ⟨x, 4, none⟩ (.slice (some ⟨G2, 0, none⟩) nd c2)).heap[x]? = some (.cells #[.bool s.mv, .bool s.al, .int .i64 s.place, .slice (some ⟨G1, 0, none⟩) ng c1, .slice (some ⟨G2, 0, none⟩) nd c2] 52 (0, 0)) := by
            rw [heapq_set, if_pos rfl, heapq_set, if_pos rfl, k1]
            simp [objSet_cells]
          have hW1 : ((w7.setCell ⟨x, 3, none⟩ (.slice (some ⟨G1, 0, none⟩) ng c1)).setCell ⟨x, 4, none⟩ (.slice (some ⟨G2, 0, none⟩) nd c2)).heap[x + 1]? = some (.cells #[.bool false, .bool false, .int .i64 0, .slice none 0 0, .slice none 0 0] 52 (0, 0)) := by
            rw [heapq_set, if_neg (by omega), heapq_set, if_neg (by omega)]
            exact k2
          have hbE : Below x w ((w7.setCell ⟨x, 3, none⟩ (.slice (some ⟨G1, 0, none⟩) ng c1)).setCell ⟨x, 4, none⟩ (.slice (some ⟨G2, 0, none⟩) nd c2)) := ((HB0.out.trans (hb7.mono (by omega))).setCell (Nat.le_refl _) _).setCell (Nat.le_refl _) _
          have o1 := ownsRow_setCell_other (ownsRow_setCell_other own1 (a := ⟨x, 3, none⟩) (by simp [Value.ownBlock]; omega) (.slice (some ⟨G1, 0, none⟩) ng c1)) (a := ⟨x, 4, none⟩) (by simp [Value.ownBlock]; omega) (.slice (some ⟨G2, 0, none⟩) nd c2)
          have o2 := ownsRow_setCell_other (ownsRow_setCell_other own2 (a := ⟨x, 3, none⟩) (by simp [Value.ownBlock]; omega) (.slice (some ⟨G1, 0, none⟩) ng c1)) (a := ⟨x, 4, none⟩) (by simp [Value.ownBlock]; omega) (.slice (some ⟨G2, 0, none⟩) nd c2)
          have fs4 : (w7.setCell ⟨x, 3, none⟩ (.slice (some ⟨G1, 0, none⟩) ng c1)).frozen? ⟨x, 4, none⟩ = false := frozen_of_row _ x 4 #[.bool s.mv, .bool s.al, .int .i64 s.place, .slice (some ⟨G1, 0, none⟩) ng c1, .slice Ad nd cd] 52 (by rw [heapq_set, if_pos rfl, k1]; simp [objSet_cells])
          have O1 := Lib.hid o1
          have O2 := Lib.hid o2
          have HBE := Lib.hid hbE
          have HW1 := Lib.hid hW1
          have HW2 := Lib.hid hW2
          have HNE := Lib.hid hne
          clear o1 o2 hbE hW1 hW2 k1 k2 own1 own2 hb7 t0 t1 t2 t3 t4 q0 q1 q2 q3 q4 sz
          go_wp2
          refine onlyNormal_mk ?_
          generalize (w7.setCell ⟨x, 3, none⟩ (.slice (some ⟨G1, 0, none⟩) ng c1)).setCell ⟨x, 4, none⟩ (.slice (some ⟨G2, 0, none⟩) nd c2) = wE at *
          obtain ⟨e0, e1, e2, e3, e4⟩ := cells5 HW2.out
          obtain ⟨t0, t1, t2, t3, t4, q0, q1, q2, q3, q4⟩ := res5 HW1.out
          clear a0 a1 a2 a3 a4 p3 p4 m3 fs4
          have n1 : some (x + 1) ≠ some G1 := fun he => by have := Option.some.inj he; omega
          have n2 : some (x + 1) ≠ some G2 := fun he => by have := Option.some.inj he; omega
          have N1 := Lib.hid n1
          have N2 := Lib.hid n2
          clear n1 n2
          go_wp2
          refine bodyPost_ret (v := stV s (some ⟨G1, 0, none⟩) (some ⟨G2, 0, none⟩) ng nd c1 c2) (by simp [results, Tryz.results26, go_sem, stV, t0, t1, t2, t3, t4]) rfl ⟨G1, G2, c1, c2, rfl, ⟨?_, ?_, HNE.out⟩, ?_⟩
          · rw [HX.out]
            have o := O1.out
            refine ownsRow_more ?_ (show x ≤ W0.heap.size by omega)
            exact ownsRow_setCell_other (ownsRow_setCell_other (ownsRow_setCell_other (ownsRow_setCell_other (ownsRow_setCell_other o (Ne.symm N1.out) _) (Ne.symm N1.out) _) (Ne.symm N1.out) _) (Ne.symm N1.out) _) (Ne.symm N1.out) _
          · rw [HX.out]
            have o := O2.out
            refine ownsRow_more ?_ (show x ≤ W0.heap.size by omega)
            exact ownsRow_setCell_other (ownsRow_setCell_other (ownsRow_setCell_other (ownsRow_setCell_other (ownsRow_setCell_other o (Ne.symm N2.out) _) (Ne.symm N2.out) _) (Ne.symm N2.out) _) (Ne.symm N2.out) _) (Ne.symm N2.out) _
          · rw [HX.out]
            exact ((((HBE.out.setCell (by simp) _).setCell (by simp) _).setCell (by simp) _).setCell (by simp) _).setCell (by simp) _
      · unfold wpMid
        simp only [opsAt_nil, opsAt_cons, consOpt_some, List.getElem?_toArray, List.getElem?_cons_zero, List.getElem?_cons_succ]
        go_wp2
        refine onlyNormal_mk ⟨⟨⟨_, hb2⟩, rfl⟩, ?_⟩
        refine wpOrders_one (i := 4) (by kernel_rfl) ?_
        unfold wpMid
        simp only [opsAt_nil, opsAt_cons, consOpt_some, List.getElem?_toArray, List.getElem?_cons_zero, List.getElem?_cons_succ]
        go_wp2
        have hb9 : Below W0.heap.size W0 (w2.alloc (.cells #[] 4)) := hb2.alloc hb2.size _
        have gbq : (w2.alloc (.cells #[] 4)).heap[w2.heap.size]? = some (.cells #[] 4 (0, 0)) := by rw [heapq_alloc, if_pos rfl]
        have gbn : W0.heap.size ≤ w2.heap.size := hb2.size
        have hG1 : G1 < w2.heap.size := (ownBlk own0 rfl).2.1
        have own0 := own0.alloc (.cells #[] 4)
        refine onlyNormal_mk ⟨⟨⟨_, hb9⟩, rfl⟩, ?_⟩
        generalize w2.heap.size = gb at *
        generalize w2.alloc (.cells #[] 4) = w9 at *
        refine wpOrders_one (i := 7) (by kernel_rfl) ?_
        unfold wpMid
        simp only [opsAt_nil, opsAt_cons, consOpt_some, List.getElem?_toArray, List.getElem?_cons_zero, List.getElem?_cons_succ]
        have hrd := HS.out.rd.below (hb9.mono hBW)
        refine wpList_append_copy w9 rfl _ _ 50 rfl W0.heap.size 4 i1 _ 1 1 Tryz.underlying50 hi1 hy0 hy1 hy2 rfl (by omega) gb rfl gbq gbn B Ad nd cd (s.doors.map .bool) rfl (by rw [Nat.mul_one, List.length_map]; exact HS.out.ld) hrd (bools_one _) (by simp only [maxLen]; omega) (by omega) hb9.size ?_
        intro G2 c2 w10 own2 hgrow10 hat10
        have hb10 : Below W0.heap.size W0 w10 := hb9.grown hgrow10 hb9.size (fun k hk => by rw [← Option.some.inj hk]; exact gbn)
        clear hrd
        have hG1l : G1 < w9.heap.size := (ownBlk own0 rfl).2.1
        have own1 := ownsRow_keep own0 (fun k hk => hgrow10.block k (ownBlk own0 hk).2.1 (fun he => by have h1 : k = G1 := (by simpa [Value.ownBlock] using hk.symm); have h2 := Option.some.inj he; omega))
        have hne : G1 ≠ G2 := by rcases hat10 with h | h <;> omega
        refine onlyNormal_mk ⟨⟨⟨_, hb10⟩, rfl⟩, ?_⟩
        refine wpOrders_zero ?_
        have sz := HSZ.out
        have bx : x < W0.heap.size := by omega
        have bx1 : x + 1 < W0.heap.size := by omega
        have bG : W0.heap.size ≤ G1 := (ownBlk own1 rfl).1
        have bD : W0.heap.size ≤ G2 := (ownBlk own2 rfl).1
        have k1 := (hb10.block x bx).trans K1.out
        have k2 := (hb10.block (x + 1) bx1).trans K2.out
        obtain ⟨a0, a1, a2, a3, a4⟩ := cells5 k1
        obtain ⟨t0, t1, t2, t3, t4, q0, q1, q2, q3, q4⟩ := res5 k2
        have p3 := frozen_of_row w10 x 3 _ _ k1
        have p4 := frozen_of_row w10 x 4 _ _ k1
        have m3 : (w10.setCell ⟨x, 3, none⟩ (.slice (some ⟨G1, 0, none⟩) ng c1)).cell? ⟨x, 4, none⟩ = some (.slice Ad nd cd) := by
          rw [cell_of_row _ x 4 #[.bool s.mv, .bool s.al, .int .i64 s.place, .slice (some ⟨G1, 0, none⟩) ng c1, .slice Ad nd cd] 52 (0, 0) (by rw [heapq_set, if_pos rfl, k1]; simp [objSet_cells])]
          rfl
        have hW2 : ((w10.setCell ⟨x, 3, none⟩ (.slice (some ⟨G1, 0, none⟩) ng c1)).setCell ⟨x, 4, none⟩ (.slice (some ⟨G2, 0, none⟩) nd c2)).heap[x]? = some (.cells #[.bool s.mv, .bool s.al, .int .i64 s.place, .slice (some ⟨G1, 0, none⟩) ng c1, .slice (some ⟨G2, 0, none⟩) nd c2] 52 (0, 0)) := by
          rw [heapq_set, if_pos rfl, heapq_set, if_pos rfl, k1]
          simp [objSet_cells]
        have hW1 : ((w10.setCell ⟨x, 3, none⟩ (.slice (some ⟨G1, 0, none⟩) ng c1)).setCell ⟨x, 4, none⟩ (.slice (some ⟨G2, 0, none⟩) nd c2)).heap[x + 1]? = some (.cells #[.bool false, .bool false, .int .i64 0, .slice none 0 0, .slice none 0 0] 52 (0, 0)) := by
          rw [heapq_set, if_neg (by omega), heapq_set, if_neg (by omega)]
          exact k2
        have hbE : Below x w ((w10.setCell ⟨x, 3, none⟩ (.slice (some ⟨G1, 0, none⟩) ng c1)).setCell ⟨x, 4, none⟩ (.slice (some ⟨G2, 0, none⟩) nd c2)) := ((HB0.out.trans (hb10.mono (by omega))).setCell (Nat.le_refl _) _).setCell (Nat.le_refl _) _
        have o1 := ownsRow_setCell_other (ownsRow_setCell_other own1 (a := ⟨x, 3, none⟩) (by simp [Value.ownBlock]; omega) (.slice (some ⟨G1, 0, none⟩) ng c1)) (a := ⟨x, 4, none⟩) (by simp [Value.ownBlock]; omega) (.slice (some ⟨G2, 0, none⟩) nd c2)
        have o2 := ownsRow_setCell_other (ownsRow_setCell_other own2 (a := ⟨x, 3, none⟩) (by simp [Value.ownBlock]; omega) (.slice (some ⟨G1, 0, none⟩) ng c1)) (a := ⟨x, 4, none⟩) (by simp [Value.ownBlock]; omega) (.slice (some ⟨G2, 0, none⟩) nd c2)
        have fs4 : (w10.setCell ⟨x, 3, none⟩ (.slice (some ⟨G1, 0, none⟩) ng c1)).frozen? ⟨x, 4, none⟩ = false := frozen_of_row _ x 4 #[.bool s.mv, .bool s.al, .int .i64 s.place, .slice (some ⟨G1, 0, none⟩) ng c1, .slice Ad nd cd] 52 (by rw [heapq_set, if_pos rfl, k1]; simp [objSet_cells])
        have O1 := Lib.hid o1
        have O2 := Lib.hid o2
        have HBE := Lib.hid hbE
        have HW1 := Lib.hid hW1
        have HW2 := Lib.hid hW2
        have HNE := Lib.hid hne
        clear o1 o2 hbE hW1 hW2 k1 k2 own1 own2 hb10 t0 t1 t2 t3 t4 q0 q1 q2 q3 q4 sz
        go_wp2
        refine onlyNormal_mk ?_
        generalize (w10.setCell ⟨x, 3, none⟩ (.slice (some ⟨G1, 0, none⟩) ng c1)).setCell ⟨x, 4, none⟩ (.slice (some ⟨G2, 0, none⟩) nd c2) = wE at *
        obtain ⟨e0, e1, e2, e3, e4⟩ := cells5 HW2.out
        obtain ⟨t0, t1, t2, t3, t4, q0, q1, q2, q3, q4⟩ := res5 HW1.out
        clear a0 a1 a2 a3 a4 p3 p4 m3 fs4
        have n1 : some (x + 1) ≠ some G1 := fun he => by have := Option.some.inj he; omega
        have n2 : some (x + 1) ≠ some G2 := fun he => by have := Option.some.inj he; omega
        have N1 := Lib.hid n1
        have N2 := Lib.hid n2
        clear n1 n2
        go_wp2
        refine bodyPost_ret (v := stV s (some ⟨G1, 0, none⟩) (some ⟨G2, 0, none⟩) ng nd c1 c2) (by simp [results, Tryz.results26, go_sem, stV, t0, t1, t2, t3, t4]) rfl ⟨G1, G2, c1, c2, rfl, ⟨?_, ?_, HNE.out⟩, ?_⟩
        · rw [HX.out]
          have o := O1.out
          refine ownsRow_more ?_ (show x ≤ W0.heap.size by omega)
          exact ownsRow_setCell_other (ownsRow_setCell_other (ownsRow_setCell_other (ownsRow_setCell_other (ownsRow_setCell_other o (Ne.symm N1.out) _) (Ne.symm N1.out) _) (Ne.symm N1.out) _) (Ne.symm N1.out) _) (Ne.symm N1.out) _
        · rw [HX.out]
          have o := O2.out
          refine ownsRow_more ?_ (show x ≤ W0.heap.size by omega)
          exact ownsRow_setCell_other (ownsRow_setCell_other (ownsRow_setCell_other (ownsRow_setCell_other (ownsRow_setCell_other o (Ne.symm N2.out) _) (Ne.symm N2.out) _) (Ne.symm N2.out) _) (Ne.symm N2.out) _) (Ne.symm N2.out) _
        · rw [HX.out]
          exact ((((HBE.out.setCell (by simp) _).setCell (by simp) _).setCell (by simp) _).setCell (by simp) _).setCell (by simp) _
    · unfold wpMid
      simp only [opsAt_nil, opsAt_cons, consOpt_some, List.getElem?_toArray, List.getElem?_cons_zero, List.getElem?_cons_succ]
      go_wp2
      have hb11 : Below W0.heap.size W0 (w1.alloc (.cells #[] 4)) := hb1.alloc hb1.size _
      have gbq : (w1.alloc (.cells #[] 4)).heap[w1.heap.size]? = some (.cells #[] 4 (0, 0)) := by rw [heapq_alloc, if_pos rfl]
      have gbn : W0.heap.size ≤ w1.heap.size := hb1.size
      have hab : ga < w1.heap.size := lt_of_block gaq
      have gaq := (Below.heap_alloc w1 (.cells #[] 4) ga (lt_of_block gaq)).trans gaq
      refine onlyNormal_mk ⟨⟨⟨_, hb11⟩, rfl⟩, ?_⟩
      generalize w1.heap.size = gb at *
      generalize w1.alloc (.cells #[] 4) = w11 at *
      refine wpOrders_one (i := 3) (by kernel_rfl) ?_
      unfold wpMid
      simp only [opsAt_nil, opsAt_cons, consOpt_some, List.getElem?_toArray, List.getElem?_cons_zero, List.getElem?_cons_succ]
      have hrd := HS.out.rg.below (hb11.mono hBW)
      refine wpList_append_copy w11 rfl _ _ 50 rfl W0.heap.size 4 i1 _ 1 1 Tryz.underlying50 hi1 hy0 hy1 hy2 rfl (by omega) ga rfl gaq gan B Ag ng cg (s.gates.map .bool) rfl (by rw [Nat.mul_one, List.length_map]; exact HS.out.lg) hrd (bools_one _) (by simp only [maxLen]; omega) (by omega) hb11.size ?_
      intro G1 c1 w12 own0 hgrow12 hat12
      have hb12 : Below W0.heap.size W0 w12 := hb11.grown hgrow12 hb11.size (fun k hk => by rw [← Option.some.inj hk]; exact gan)
      clear hrd
      have hgl : gb < w11.heap.size := lt_of_block gbq
      have hG1 : G1 ≠ gb := by rcases hat12 with h | h <;> omega
      have gbq := (hgrow12.block gb hgl (fun he => by have h2 := Option.some.inj he; omega)).trans gbq
      refine onlyNormal_mk ⟨⟨⟨_, hb12⟩, rfl⟩, ?_⟩
      refine wpOrders_two (i := 7) (k := 8) (by kernel_rfl) ?_ ?_
      · unfold wpMid
        simp only [opsAt_nil, opsAt_cons, consOpt_some, List.getElem?_toArray, List.getElem?_cons_zero, List.getElem?_cons_succ]
        have hrd := HS.out.rd.below (hb12.mono hBW)
        refine wpList_append_copy w12 rfl _ _ 50 rfl W0.heap.size 4 i1 _ 1 1 Tryz.underlying50 hi1 hy0 hy1 hy2 rfl (by omega) gb rfl gbq gbn B Ad nd cd (s.doors.map .bool) rfl (by rw [Nat.mul_one, List.length_map]; exact HS.out.ld) hrd (bools_one _) (by simp only [maxLen]; omega) (by omega) hb12.size ?_
        intro G2 c2 w13 own2 hgrow13 hat13
        have hb13 : Below W0.heap.size W0 w13 := hb12.grown hgrow13 hb12.size (fun k hk => by rw [← Option.some.inj hk]; exact gbn)
        clear hrd
        have hG1l : G1 < w12.heap.size := (ownBlk own0 rfl).2.1
        have own1 := ownsRow_keep own0 (fun k hk => hgrow13.block k (ownBlk own0 hk).2.1 (fun he => by have h1 : k = G1 := (by simpa [Value.ownBlock] using hk.symm); have h2 := Option.some.inj he; omega))
        have hne : G1 ≠ G2 := by rcases hat13 with h | h <;> omega
        refine onlyNormal_mk ⟨⟨⟨_, hb13⟩, rfl⟩, ?_⟩
        refine wpOrders_one (i := 8) (by kernel_rfl) ?_
        unfold wpMid
        simp only [opsAt_nil, opsAt_cons, consOpt_some, List.getElem?_toArray, List.getElem?_cons_zero, List.getElem?_cons_succ]
        go_wp2
        refine onlyNormal_mk ⟨⟨⟨_, hb13⟩, rfl⟩, ?_⟩
        refine wpOrders_zero ?_
        have sz := HSZ.out
        have bx : x < W0.heap.size := by omega
        have bx1 : x + 1 < W0.heap.size := by omega
        have bG : W0.heap.size ≤ G1 := (ownBlk own1 rfl).1
        have bD : W0.heap.size ≤ G2 := (ownBlk own2 rfl).1
        have k1 := (hb13.block x bx).trans K1.out
        have k2 := (hb13.block (x + 1) bx1).trans K2.out
        obtain ⟨a0, a1, a2, a3, a4⟩ := cells5 k1
        obtain ⟨t0, t1, t2, t3, t4, q0, q1, q2, q3, q4⟩ := res5 k2
        have p3 := frozen_of_row w13 x 3 _ _ k1
        have p4 := frozen_of_row w13 x 4 _ _ k1
        have m3 : (w13.setCell ⟨x, 3, none⟩ (.slice (some ⟨G1, 0, none⟩) ng c1)).cell? ⟨x, 4, none⟩ = some (.slice Ad nd cd) := by
          rw [cell_of_row _ x 4 #[.bool s.mv, .bool s.al, .int .i64 s.place, .slice (some ⟨G1, 0, none⟩) ng c1, .slice Ad nd cd] 52 (0, 0) (by rw [heapq_set, if_pos rfl, k1]; simp [objSet_cells])]
          rfl
        have hW2 : ((w13.setCell ⟨x, 3, none⟩ (.slice (some ⟨G1, 0, none⟩) ng c1)).setCell ⟨x, 4, none⟩ (.slice (some ⟨G2, 0, none⟩) nd c2)).heap[x]? = some (.cells #[.bool s.mv, .bool s.al, .int .i64 s.place, .slice (some ⟨G1, 0, none⟩) ng c1, .slice (some ⟨G2, 0, none⟩) nd c2] 52 (0, 0)) := by
          rw [heapq_set, if_pos rfl, heapq_set, if_pos rfl, k1]
          simp [objSet_cells]
        have hW1 : ((w13.setCell ⟨x, 3, none⟩ (.slice (some ⟨G1, 0, none⟩) ng c1)).setCell ⟨x, 4, none⟩ (.slice (some ⟨G2, 0, none⟩) nd c2)).heap[x + 1]? = some (.cells #[.bool false, .bool false, .int .i64 0, .slice none 0 0, .slice none 0 0] 52 (0, 0)) := by
          rw [heapq_set, if_neg (by omega), heapq_set, if_neg (by omega)]
          exact k2
        have hbE : Below x w ((w13.setCell ⟨x, 3, none⟩ (.slice (some ⟨G1, 0, none⟩) ng c1)).setCell ⟨x, 4, none⟩ (.slice (some ⟨G2, 0, none⟩) nd c2)) := ((HB0.out.trans (hb13.mono (by omega))).setCell (Nat.le_refl _) _).setCell (Nat.le_refl _) _
        have o1 := ownsRow_setCell_other (ownsRow_setCell_other own1 (a := ⟨x, 3, none⟩) (by simp [Value.ownBlock]; omega) (.slice (some ⟨G1, 0, none⟩) ng c1)) (a := ⟨x, 4, none⟩) (by simp [Value.ownBlock]; omega) (.slice (some ⟨G2, 0, none⟩) nd c2)
        have o2 := ownsRow_setCell_other (ownsRow_setCell_other own2 (a := ⟨x, 3, none⟩) (by simp [Value.ownBlock]; omega) (.slice (some ⟨G1, 0, none⟩) ng c1)) (a := ⟨x, 4, none⟩) (by simp [Value.ownBlock]; omega) (.slice (some ⟨G2, 0, none⟩) nd c2)
        have fs4 : (w13.setCell ⟨x, 3, none⟩ (.slice (some ⟨G1, 0, none⟩) ng c1)).frozen? ⟨x, 4, none⟩ = false := frozen_of_row _ x 4 #[.bool s.mv, .bool s.al, .int .i64 s.place, .slice (some ⟨G1, 0, none⟩) ng c1, .slice Ad nd cd] 52 (by rw [heapq_set, if_pos rfl, k1]; simp [objSet_cells])
        have O1 := Lib.hid o1
        have O2 := Lib.hid o2
        have HBE := Lib.hid hbE
        have HW1 := Lib.hid hW1
        have HW2 := Lib.hid hW2
        have HNE := Lib.hid hne
        clear o1 o2 hbE hW1 hW2 k1 k2 own1 own2 hb13 t0 t1 t2 t3 t4 q0 q1 q2 q3 q4 sz
        go_wp2
        refine onlyNormal_mk ?_
        generalize (w13.setCell ⟨x, 3, none⟩ (.slice (some ⟨G1, 0, none⟩) ng c1)).setCell ⟨x, 4, none⟩ (.slice (some ⟨G2, 0, none⟩) nd c2) = wE at *
        obtain ⟨e0, e1, e2, e3, e4⟩ := cells5 HW2.out
        obtain ⟨t0, t1, t2, t3, t4, q0, q1, q2, q3, q4⟩ := res5 HW1.out
        clear a0 a1 a2 a3 a4 p3 p4 m3 fs4
        have n1 : some (x + 1) ≠ some G1 := fun he => by have := Option.some.inj he; omega
        have n2 : some (x + 1) ≠ some G2 := fun he => by have := Option.some.inj he; omega
        have N1 := Lib.hid n1
        have N2 := Lib.hid n2
        clear n1 n2
        go_wp2
        refine bodyPost_ret (v := stV s (some ⟨G1, 0, none⟩) (some ⟨G2, 0, none⟩) ng nd c1 c2) (by simp [results, Tryz.results26, go_sem, stV, t0, t1, t2, t3, t4]) rfl ⟨G1, G2, c1, c2, rfl, ⟨?_, ?_, HNE.out⟩, ?_⟩
        · rw [HX.out]
          have o := O1.out
          refine ownsRow_more ?_ (show x ≤ W0.heap.size by omega)
          exact ownsRow_setCell_other (ownsRow_setCell_other (ownsRow_setCell_other (ownsRow_setCell_other (ownsRow_setCell_other o (Ne.symm N1.out) _) (Ne.symm N1.out) _) (Ne.symm N1.out) _) (Ne.symm N1.out) _) (Ne.symm N1.out) _
        · rw [HX.out]
          have o := O2.out
          refine ownsRow_more ?_ (show x ≤ W0.heap.size by omega)
          exact ownsRow_setCell_other (ownsRow_setCell_other (ownsRow_setCell_other (ownsRow_setCell_other (ownsRow_setCell_other o (Ne.symm N2.out) _) (Ne.symm N2.out) _) (Ne.symm N2.out) _) (Ne.symm N2.out) _) (Ne.symm N2.out) _
        · rw [HX.out]
          exact ((((HBE.out.setCell (by simp) _).setCell (by simp) _).setCell (by simp) _).setCell (by simp) _).setCell (by simp) _
      · unfold wpMid
        simp only [opsAt_nil, opsAt_cons, consOpt_some, List.getElem?_toArray, List.getElem?_cons_zero, List.getElem?_cons_succ]
        go_wp2
        refine onlyNormal_mk ⟨⟨⟨_, hb12⟩, rfl⟩, ?_⟩
        refine wpOrders_one (i := 7) (by kernel_rfl) ?_
        unfold wpMid
        simp only [opsAt_nil, opsAt_cons, consOpt_some, List.getElem?_toArray, List.getElem?_cons_zero, List.getElem?_cons_succ]
        have hrd := HS.out.rd.below (hb12.mono hBW)
        refine wpList_append_copy w12 rfl _ _ 50 rfl W0.heap.size 4 i1 _ 1 1 Tryz.underlying50 hi1 hy0 hy1 hy2 rfl (by omega) gb rfl gbq gbn B Ad nd cd (s.doors.map .bool) rfl (by rw [Nat.mul_one, List.length_map]; exact HS.out.ld) hrd (bools_one _) (by simp only [maxLen]; omega) (by omega) hb12.size ?_
        intro G2 c2 w16 own2 hgrow16 hat16
        have hb16 : Below W0.heap.size W0 w16 := hb12.grown hgrow16 hb12.size (fun k hk => by rw [← Option.some.inj hk]; exact gbn)
        clear hrd
        have hG1l : G1 < w12.heap.size := (ownBlk own0 rfl).2.1
        have own1 := ownsRow_keep own0 (fun k hk => hgrow16.block k (ownBlk own0 hk).2.1 (fun he => by have h1 : k = G1 := (by simpa [Value.ownBlock] using hk.symm); have h2 := Option.some.inj he; omega))
        have hne : G1 ≠ G2 := by rcases hat16 with h | h <;> omega
        refine onlyNormal_mk ⟨⟨⟨_, hb16⟩, rfl⟩, ?_⟩
        refine wpOrders_zero ?_
        have sz := HSZ.out
        have bx : x < W0.heap.size := by omega
        have bx1 : x + 1 < W0.heap.size := by omega
        have bG : W0.heap.size ≤ G1 := (ownBlk own1 rfl).1
        have bD : W0.heap.size ≤ G2 := (ownBlk own2 rfl).1
        have k1 := (hb16.block x bx).trans K1.out
        have k2 := (hb16.block (x + 1) bx1).trans K2.out
        obtain ⟨a0, a1, a2, a3, a4⟩ := cells5 k1
        obtain ⟨t0, t1, t2, t3, t4, q0, q1, q2, q3, q4⟩ := res5 k2
        have p3 := frozen_of_row w16 x 3 _ _ k1
        have p4 := frozen_of_row w16 x 4 _ _ k1
        have m3 : (w16.setCell ⟨x, 3, none⟩ (.slice (some ⟨G1, 0, none⟩) ng c1)).cell? ⟨x, 4, none⟩ = some (.slice Ad nd cd) := by
          rw [cell_of_row _ x 4 #[.bool s.mv, .bool s.al, .int .i64 s.place, .slice (some ⟨G1, 0, none⟩) ng c1, .slice Ad nd cd] 52 (0, 0) (by rw [heapq_set, if_pos rfl, k1]; simp [objSet_cells])]
          rfl
        have hW2 : ((w16.setCell ⟨x, 3, none⟩ (.slice (some ⟨G1, 0, none⟩) ng c1)).setCell ⟨x, 4, none⟩ (.slice (some ⟨G2, 0, none⟩) nd c2)).heap[x]? = some (.cells #[.bool s.mv, .bool s.al, .int .i64 s.place, .slice (some ⟨G1, 0, none⟩) ng c1, .slice (some ⟨G2, 0, none⟩) nd c2] 52 (0, 0)) := by
          rw [heapq_set, if_pos rfl, heapq_set, if_pos rfl, k1]
          simp [objSet_cells]
        have hW1 : ((w16.setCell ⟨x, 3, none⟩ (.slice (some ⟨G1, 0, none⟩) ng c1)).setCell ⟨x, 4, none⟩ (.slice (some ⟨G2, 0, none⟩) nd c2)).heap[x + 1]? = some (.cells #[.bool false, .bool false, .int .i64 0, .slice none 0 0, .slice none 0 0] 52 (0, 0)) := by
          rw [heapq_set, if_neg (by omega), heapq_set, if_neg (by omega)]
          exact k2
        have hbE : Below x w ((w16.setCell ⟨x, 3, none⟩ (.slice (some ⟨G1, 0, none⟩) ng c1)).setCell ⟨x, 4, none⟩ (.slice (some ⟨G2, 0, none⟩) nd c2)) := ((HB0.out.trans (hb16.mono (by omega))).setCell (Nat.le_refl _) _).setCell (Nat.le_refl _) _
        have o1 := ownsRow_setCell_other (ownsRow_setCell_other own1 (a := ⟨x, 3, none⟩) (by simp [Value.ownBlock]; omega) (.slice (some ⟨G1, 0, none⟩) ng c1)) (a := ⟨x, 4, none⟩) (by simp [Value.ownBlock]; omega) (.slice (some ⟨G2, 0, none⟩) nd c2)
        have o2 := ownsRow_setCell_other (ownsRow_setCell_other own2 (a := ⟨x, 3, none⟩) (by simp [Value.ownBlock]; omega) (.slice (some ⟨G1, 0, none⟩) ng c1)) (a := ⟨x, 4, none⟩) (by simp [Value.ownBlock]; omega) (.slice (some ⟨G2, 0, none⟩) nd c2)
        have fs4 : (w16.setCell ⟨x, 3, none⟩ (.slice (some ⟨G1, 0, none⟩) ng c1)).frozen? ⟨x, 4, none⟩ = false := frozen_of_row _ x 4 #[.bool s.mv, .bool s.al, .int .i64 s.place, .slice (some ⟨G1, 0, none⟩) ng c1, .slice Ad nd cd] 52 (by rw [heapq_set, if_pos rfl, k1]; simp [objSet_cells])
        have O1 := Lib.hid o1
        have O2 := Lib.hid o2
        have HBE := Lib.hid hbE
        have HW1 := Lib.hid hW1
        have HW2 := Lib.hid hW2
        have HNE := Lib.hid hne
        clear o1 o2 hbE hW1 hW2 k1 k2 own1 own2 hb16 t0 t1 t2 t3 t4 q0 q1 q2 q3 q4 sz
        go_wp2
        refine onlyNormal_mk ?_
        generalize (w16.setCell ⟨x, 3, none⟩ (.slice (some ⟨G1, 0, none⟩) ng c1)).setCell ⟨x, 4, none⟩ (.slice (some ⟨G2, 0, none⟩) nd c2) = wE at *
        obtain ⟨e0, e1, e2, e3, e4⟩ := cells5 HW2.out
        obtain ⟨t0, t1, t2, t3, t4, q0, q1, q2, q3, q4⟩ := res5 HW1.out
        clear a0 a1 a2 a3 a4 p3 p4 m3 fs4
        have n1 : some (x + 1) ≠ some G1 := fun he => by have := Option.some.inj he; omega
        have n2 : some (x + 1) ≠ some G2 := fun he => by have := Option.some.inj he; omega
        have N1 := Lib.hid n1
        have N2 := Lib.hid n2
        clear n1 n2
        go_wp2
        refine bodyPost_ret (v := stV s (some ⟨G1, 0, none⟩) (some ⟨G2, 0, none⟩) ng nd c1 c2) (by simp [results, Tryz.results26, go_sem, stV, t0, t1, t2, t3, t4]) rfl ⟨G1, G2, c1, c2, rfl, ⟨?_, ?_, HNE.out⟩, ?_⟩
        · rw [HX.out]
          have o := O1.out
          refine ownsRow_more ?_ (show x ≤ W0.heap.size by omega)
          exact ownsRow_setCell_other (ownsRow_setCell_other (ownsRow_setCell_other (ownsRow_setCell_other (ownsRow_setCell_other o (Ne.symm N1.out) _) (Ne.symm N1.out) _) (Ne.symm N1.out) _) (Ne.symm N1.out) _) (Ne.symm N1.out) _
        · rw [HX.out]
          have o := O2.out
          refine ownsRow_more ?_ (show x ≤ W0.heap.size by omega)
          exact ownsRow_setCell_other (ownsRow_setCell_other (ownsRow_setCell_other (ownsRow_setCell_other (ownsRow_setCell_other o (Ne.symm N2.out) _) (Ne.symm N2.out) _) (Ne.symm N2.out) _) (Ne.symm N2.out) _) (Ne.symm N2.out) _
        · rw [HX.out]
          exact ((((HBE.out.setCell (by simp) _).setCell (by simp) _).setCell (by simp) _).setCell (by simp) _).setCell (by simp) _
  · unfold wpMid
    simp only [opsAt_nil, opsAt_cons, consOpt_some, List.getElem?_toArray, List.getElem?_cons_zero, List.getElem?_cons_succ]
    go_wp2
    have hb17 : Below W0.heap.size W0 (Wd.alloc (.cells #[] 4)) := hbd.alloc hbd.size _
    have gbq : (Wd.alloc (.cells #[] 4)).heap[Wd.heap.size]? = some (.cells #[] 4 (0, 0)) := by rw [heapq_alloc, if_pos rfl]
    have gbn : W0.heap.size ≤ Wd.heap.size := hbd.size
    refine onlyNormal_mk ⟨⟨⟨_, hb17⟩, rfl⟩, ?_⟩
    generalize Wd.heap.size = gb at *
    generalize Wd.alloc (.cells #[] 4) = w17 at *
    refine wpOrders_one (i := 0) (by kernel_rfl) ?_
    unfold wpMid
    simp only [opsAt_nil, opsAt_cons, consOpt_some, List.getElem?_toArray, List.getElem?_cons_zero]
    go_wp2
    have hb18 : Below W0.heap.size W0 (w17.alloc (.cells #[] 4)) := hb17.alloc hb17.size _
    have gaq : (w17.alloc (.cells #[] 4)).heap[w17.heap.size]? = some (.cells #[] 4 (0, 0)) := by rw [heapq_alloc, if_pos rfl]
    have gan : W0.heap.size ≤ w17.heap.size := hb17.size
    have hab : gb < w17.heap.size := lt_of_block gbq
    have gbq := (Below.heap_alloc w17 (.cells #[] 4) gb (lt_of_block gbq)).trans gbq
    refine onlyNormal_mk ⟨⟨⟨_, hb18⟩, rfl⟩, ?_⟩
    generalize w17.heap.size = ga at *
    generalize w17.alloc (.cells #[] 4) = w18 at *
    refine wpOrders_one (i := 3) (by kernel_rfl) ?_
    unfold wpMid
    simp only [opsAt_nil, opsAt_cons, consOpt_some, List.getElem?_toArray, List.getElem?_cons_zero, List.getElem?_cons_succ]
    have hrd := HS.out.rg.below (hb18.mono hBW)
    refine wpList_append_copy w18 rfl _ _ 50 rfl W0.heap.size 4 i1 _ 1 1 Tryz.underlying50 hi1 hy0 hy1 hy2 rfl (by omega) ga rfl gaq gan B Ag ng cg (s.gates.map .bool) rfl (by rw [Nat.mul_one, List.length_map]; exact HS.out.lg) hrd (bools_one _) (by simp only [maxLen]; omega) (by omega) hb18.size ?_
    intro G1 c1 w19 own0 hgrow19 hat19
    have hb19 : Below W0.heap.size W0 w19 := hb18.grown hgrow19 hb18.size (fun k hk => by rw [← Option.some.inj hk]; exact gan)
    clear hrd
    have hgl : gb < w18.heap.size := lt_of_block gbq
    have hG1 : G1 ≠ gb := by rcases hat19 with h | h <;> omega
    have gbq := (hgrow19.block gb hgl (fun he => by have h2 := Option.some.inj he; omega)).trans gbq
    refine onlyNormal_mk ⟨⟨⟨_, hb19⟩, rfl⟩, ?_⟩
    refine wpOrders_two (i := 7) (k := 8) (by kernel_rfl) ?_ ?_
    · unfold wpMid
      simp only [opsAt_nil, opsAt_cons, consOpt_some, List.getElem?_toArray, List.getElem?_cons_zero, List.getElem?_cons_succ]
      have hrd := HS.out.rd.below (hb19.mono hBW)
      refine wpList_append_copy w19 rfl _ _ 50 rfl W0.heap.size 4 i1 _ 1 1 Tryz.underlying50 hi1 hy0 hy1 hy2 rfl (by omega) gb rfl gbq gbn B Ad nd cd (s.doors.map .bool) rfl (by rw [Nat.mul_one, List.length_map]; exact HS.out.ld) hrd (bools_one _) (by simp only [maxLen]; omega) (by omega) hb19.size ?_
      intro G2 c2 w20 own2 hgrow20 hat20
      have hb20 : Below W0.heap.size W0 w20 := hb19.grown hgrow20 hb19.size (fun k hk => by rw [← Option.some.inj hk]; exact gbn)
      clear hrd
      have hG1l : G1 < w19.heap.size := (ownBlk own0 rfl).2.1
      have own1 := ownsRow_keep own0 (fun k hk => hgrow20.block k (ownBlk own0 hk).2.1 (fun he => by have h1 : k = G1 := (by simpa [Value.ownBlock] using hk.symm); have h2 := Option.some.inj he; omega))
      have hne : G1 ≠ G2 := by rcases hat20 with h | h <;> omega
      refine onlyNormal_mk ⟨⟨⟨_, hb20⟩, rfl⟩, ?_⟩
      refine wpOrders_one (i := 8) (by kernel_rfl) ?_
      unfold wpMid
      simp only [opsAt_nil, opsAt_cons, consOpt_some, List.getElem?_toArray, List.getElem?_cons_zero, List.getElem?_cons_succ]
      go_wp2
      refine onlyNormal_mk ⟨⟨⟨_, hb20⟩, rfl⟩, ?_⟩
      refine wpOrders_zero ?_
      have sz := HSZ.out
      have bx : x < W0.heap.size := by omega
      have bx1 : x + 1 < W0.heap.size := by omega
      have bG : W0.heap.size ≤ G1 := (ownBlk own1 rfl).1
      have bD : W0.heap.size ≤ G2 := (ownBlk own2 rfl).1
      have k1 := (hb20.block x bx).trans K1.out
      have k2 := (hb20.block (x + 1) bx1).trans K2.out
      obtain ⟨a0, a1, a2, a3, a4⟩ := cells5 k1
      obtain ⟨t0, t1, t2, t3, t4, q0, q1, q2, q3, q4⟩ := res5 k2
      have p3 := frozen_of_row w20 x 3 _ _ k1
      have p4 := frozen_of_row w20 x 4 _ _ k1
      have m3 : (w20.setCell ⟨x, 3, none⟩ (.slice (some ⟨G1, 0, none⟩) ng c1)).cell? ⟨x, 4, none⟩ = some (.slice Ad nd cd) := by
        rw [cell_of_row _ x 4 #[.bool s.mv, .bool s.al, .int .i64 s.place, .slice (some ⟨G1, 0, none⟩) ng c1, .slice Ad nd cd] 52 (0, 0) (by rw [heapq_set, if_pos rfl, k1]; simp [objSet_cells])]
        rfl
      have hW2 : ((w20.setCell ⟨x, 3, none⟩ (.slice (some ⟨G1, 0, none⟩) ng c1)).setCell ⟨x, 4, none⟩ (.slice (some ⟨G2, 0, none⟩) nd c2)).heap[x]? = some (.cells #[.bool s.mv, .bool s.al, .int .i64 s.place, .slice (some ⟨G1, 0, none⟩) ng c1, .slice (some ⟨G2, 0, none⟩) nd c2] 52 (0, 0)) := by
        rw [heapq_set, if_pos rfl, heapq_set, if_pos rfl, k1]
        simp [objSet_cells]
      have hW1 : ((w20.setCell ⟨x, 3, none⟩ (.slice (some ⟨G1, 0, none⟩) ng c1)).setCell ⟨x, 4, none⟩ (.slice (some ⟨G2, 0, none⟩) nd c2)).heap[x + 1]? = some (.cells #[.bool false, .bool false, .int .i64 0, .slice none 0 0, .slice none 0 0] 52 (0, 0)) := by
        rw [heapq_set, if_neg (by omega), heapq_set, if_neg (by omega)]
        exact k2
      have hbE : Below x w ((w20.setCell ⟨x, 3, none⟩ (.slice (some ⟨G1, 0, none⟩) ng c1)).setCell ⟨x, 4, none⟩ (.slice (some ⟨G2, 0, none⟩) nd c2)) := ((HB0.out.trans (hb20.mono (by omega))).setCell (Nat.le_refl _) _).setCell (Nat.le_refl _) _
      have o1 := ownsRow_setCell_other (ownsRow_setCell_other own1 (a := ⟨x, 3, none⟩) (by simp [Value.ownBlock]; omega) (.slice (some ⟨G1, 0, none⟩) ng c1)) (a := ⟨x, 4, none⟩) (by simp [Value.ownBlock]; omega) (.slice (some ⟨G2, 0, none⟩) nd c2)
      have o2 := ownsRow_setCell_other (ownsRow_setCell_other own2 (a := ⟨x, 3, none⟩) (by simp [Value.ownBlock]; omega) (.slice (some ⟨G1, 0, none⟩) ng c1)) (a := ⟨x, 4, none⟩) (by simp [Value.ownBlock]; omega) (.slice (some ⟨G2, 0, none⟩) nd c2)
      have fs4 : (w20.setCell ⟨x, 3, none⟩ (.slice (some ⟨G1, 0, none⟩) ng c1)).frozen? ⟨x, 4, none⟩ = false := frozen_of_row _ x 4 #[.bool s.mv, .bool s.al, .int .i64 s.place, .slice (some ⟨G1, 0, none⟩) ng c1, .slice Ad nd cd] 52 (by rw [heapq_set, if_pos rfl, k1]; simp [objSet_cells])
      have O1 := Lib.hid o1
      have O2 := Lib.hid o2
      have HBE := Lib.hid hbE
      have HW1 := Lib.hid hW1
      have HW2 := Lib.hid hW2
      have HNE := Lib.hid hne
      clear o1 o2 hbE hW1 hW2 k1 k2 own1 own2 hb20 t0 t1 t2 t3 t4 q0 q1 q2 q3 q4 sz
      go_wp2
      refine onlyNormal_mk ?_
      generalize (w20.setCell ⟨x, 3, none⟩ (.slice (some ⟨G1, 0, none⟩) ng c1)).setCell ⟨x, 4, none⟩ (.slice (some ⟨G2, 0, none⟩) nd c2) = wE at *
      obtain ⟨e0, e1, e2, e3, e4⟩ := cells5 HW2.out
      obtain ⟨t0, t1, t2, t3, t4, q0, q1, q2, q3, q4⟩ := res5 HW1.out
      clear a0 a1 a2 a3 a4 p3 p4 m3 fs4
      have n1 : some (x + 1) ≠ some G1 := fun he => by have := Option.some.inj he; omega
      have n2 : some (x + 1) ≠ some G2 := fun he => by have := Option.some.inj he; omega
      have N1 := Lib.hid n1
      have N2 := Lib.hid n2
      clear n1 n2
      go_wp2
      refine bodyPost_ret (v := stV s (some ⟨G1, 0, none⟩) (some ⟨G2, 0, none⟩) ng nd c1 c2) (by simp [results, Tryz.results26, go_sem, stV, t0, t1, t2, t3, t4]) rfl ⟨G1, G2, c1, c2, rfl, ⟨?_, ?_, HNE.out⟩, ?_⟩
      · rw [HX.out]
        have o := O1.out
        refine ownsRow_more ?_ (show x ≤ W0.heap.size by omega)
        exact ownsRow_setCell_other (ownsRow_setCell_other (ownsRow_setCell_other (ownsRow_setCell_other (ownsRow_setCell_other o (Ne.symm N1.out) _) (Ne.symm N1.out) _) (Ne.symm N1.out) _) (Ne.symm N1.out) _) (Ne.symm N1.out) _
      · rw [HX.out]
        have o := O2.out
        refine ownsRow_more ?_ (show x ≤ W0.heap.size by omega)
        exact ownsRow_setCell_other (ownsRow_setCell_other (ownsRow_setCell_other (ownsRow_setCell_other (ownsRow_setCell_other o (Ne.symm N2.out) _) (Ne.symm N2.out) _) (Ne.symm N2.out) _) (Ne.symm N2.out) _) (Ne.symm N2.out) _
      · rw [HX.out]
        exact ((((HBE.out.setCell (by simp) _).setCell (by simp) _).setCell (by simp) _).setCell (by simp) _).setCell (by simp) _
    · unfold wpMid
      simp only [opsAt_nil, opsAt_cons, consOpt_some, List.getElem?_toArray, List.getElem?_cons_zero, List.getElem?_cons_succ]
      go_wp2
      refine onlyNormal_mk ⟨⟨⟨_, hb19⟩, rfl⟩, ?_⟩
      refine wpOrders_one (i := 7) (by kernel_rfl) ?_
      unfold wpMid
      simp only [opsAt_nil, opsAt_cons, consOpt_some, List.getElem?_toArray, List.getElem?_cons_zero, List.getElem?_cons_succ]
      have hrd := HS.out.rd.below (hb19.mono hBW)
      refine wpList_append_copy w19 rfl _ _ 50 rfl W0.heap.size 4 i1 _ 1 1 Tryz.underlying50 hi1 hy0 hy1 hy2 rfl (by omega) gb rfl gbq gbn B Ad nd cd (s.doors.map .bool) rfl (by rw [Nat.mul_one, List.length_map]; exact HS.out.ld) hrd (bools_one _) (by simp only [maxLen]; omega) (by omega) hb19.size ?_
      intro G2 c2 w23 own2 hgrow23 hat23
      have hb23 : Below W0.heap.size W0 w23 := hb19.grown hgrow23 hb19.size (fun k hk => by rw [← Option.some.inj hk]; exact gbn)
      clear hrd
      have hG1l : G1 < w19.heap.size := (ownBlk own0 rfl).2.1
      have own1 := ownsRow_keep own0 (fun k hk => hgrow23.block k (ownBlk own0 hk).2.1 (fun he => by have h1 : k = G1 := (by simpa [Value.ownBlock] using hk.symm); have h2 := Option.some.inj he; omega))
      have hne : G1 ≠ G2 := by rcases hat23 with h | h <;> omega
      refine onlyNormal_mk ⟨⟨⟨_, hb23⟩, rfl⟩, ?_⟩
      refine wpOrders_zero ?_
      have sz := HSZ.out
      have bx : x < W0.heap.size := by omega
      have bx1 : x + 1 < W0.heap.size := by omega
      have bG : W0.heap.size ≤ G1 := (ownBlk own1 rfl).1
      have bD : W0.heap.size ≤ G2 := (ownBlk own2 rfl).1
      have k1 := (hb23.block x bx).trans K1.out
      have k2 := (hb23.block (x + 1) bx1).trans K2.out
      obtain ⟨a0, a1, a2, a3, a4⟩ := cells5 k1
      obtain ⟨t0, t1, t2, t3, t4, q0, q1, q2, q3, q4⟩ := res5 k2
      have p3 := frozen_of_row w23 x 3 _ _ k1
      have p4 := frozen_of_row w23 x 4 _ _ k1
      have m3 : (w23.setCell ⟨x, 3, none⟩ (.slice (some ⟨G1, 0, none⟩) ng c1)).cell? ⟨x, 4, none⟩ = some (.slice Ad nd cd) := by
        rw [cell_of_row _ x 4 #[.bool s.mv, .bool s.al, .int .i64 s.place, .slice (some ⟨G1, 0, none⟩) ng c1, .slice Ad nd cd] 52 (0, 0) (by rw [heapq_set, if_pos rfl, k1]; simp [objSet_cells])]
        rfl
      have hW2 : ((w23.setCell ⟨x, 3, none⟩ (.slice (some ⟨G1, 0, none⟩) ng c1)).setCell ⟨x, 4, none⟩ (.slice (some ⟨G2, 0, none⟩) nd c2)).heap[x]? = some (.cells #[.bool s.mv, .bool s.al, .int .i64 s.place, .slice (some ⟨G1, 0, none⟩) ng c1, .slice (some ⟨G2, 0, none⟩) nd c2] 52 (0, 0)) := by
        rw [heapq_set, if_pos rfl, heapq_set, if_pos rfl, k1]
        simp [objSet_cells]
      have hW1 : ((w23.setCell ⟨x, 3, none⟩ (.slice (some ⟨G1, 0, none⟩) ng c1)).setCell ⟨x, 4, none⟩ (.slice (some ⟨G2, 0, none⟩) nd c2)).heap[x + 1]? = some (.cells #[.bool false, .bool false, .int .i64 0, .slice none 0 0, .slice none 0 0] 52 (0, 0)) := by
        rw [heapq_set, if_neg (by omega), heapq_set, if_neg (by omega)]
        exact k2
      have hbE : Below x w ((w23.setCell ⟨x, 3, none⟩ (.slice (some ⟨G1, 0, none⟩) ng c1)).setCell ⟨x, 4, none⟩ (.slice (some ⟨G2, 0, none⟩) nd c2)) := ((HB0.out.trans (hb23.mono (by omega))).setCell (Nat.le_refl _) _).setCell (Nat.le_refl _) _
      have o1 := ownsRow_setCell_other (ownsRow_setCell_other own1 (a := ⟨x, 3, none⟩) (by simp [Value.ownBlock]; omega) (.slice (some ⟨G1, 0, none⟩) ng c1)) (a := ⟨x, 4, none⟩) (by simp [Value.ownBlock]; omega) (.slice (some ⟨G2, 0, none⟩) nd c2)
      have o2 := ownsRow_setCell_other (ownsRow_setCell_other own2 (a := ⟨x, 3, none⟩) (by simp [Value.ownBlock]; omega) (.slice (some ⟨G1, 0, none⟩) ng c1)) (a := ⟨x, 4, none⟩) (by simp [Value.ownBlock]; omega) (.slice (some ⟨G2, 0, none⟩) nd c2)
      have fs4 : (w23.setCell ⟨x, 3, none⟩ (.slice (some ⟨G1, 0, none⟩) ng c1)).frozen? ⟨x, 4, none⟩ = false := frozen_of_row _ x 4 #[.bool s.mv, .bool s.al, .int .i64 s.place, .slice (some ⟨G1, 0, none⟩) ng c1, .slice Ad nd cd] 52 (by rw [heapq_set, if_pos rfl, k1]; simp [objSet_cells])
      have O1 := Lib.hid o1
      have O2 := Lib.hid o2
      have HBE := Lib.hid hbE
      have HW1 := Lib.hid hW1
      have HW2 := Lib.hid hW2
      have HNE := Lib.hid hne
      clear o1 o2 hbE hW1 hW2 k1 k2 own1 own2 hb23 t0 t1 t2 t3 t4 q0 q1 q2 q3 q4 sz
      go_wp2
      refine onlyNormal_mk ?_
      generalize (w23.setCell ⟨x, 3, none⟩ (.slice (some ⟨G1, 0, none⟩) ng c1)).setCell ⟨x, 4, none⟩ (.slice (some ⟨G2, 0, none⟩) nd c2) = wE at *
      obtain ⟨e0, e1, e2, e3, e4⟩ := cells5 HW2.out
      obtain ⟨t0, t1, t2, t3, t4, q0, q1, q2, q3, q4⟩ := res5 HW1.out
      clear a0 a1 a2 a3 a4 p3 p4 m3 fs4
      have n1 : some (x + 1) ≠ some G1 := fun he => by have := Option.some.inj he; omega
      have n2 : some (x + 1) ≠ some G2 := fun he => by have := Option.some.inj he; omega
      have N1 := Lib.hid n1
      have N2 := Lib.hid n2
      clear n1 n2
      go_wp2
      refine bodyPost_ret (v := stV s (some ⟨G1, 0, none⟩) (some ⟨G2, 0, none⟩) ng nd c1 c2) (by simp [results, Tryz.results26, go_sem, stV, t0, t1, t2, t3, t4]) rfl ⟨G1, G2, c1, c2, rfl, ⟨?_, ?_, HNE.out⟩, ?_⟩
      · rw [HX.out]
        have o := O1.out
        refine ownsRow_more ?_ (show x ≤ W0.heap.size by omega)
        exact ownsRow_setCell_other (ownsRow_setCell_other (ownsRow_setCell_other (ownsRow_setCell_other (ownsRow_setCell_other o (Ne.symm N1.out) _) (Ne.symm N1.out) _) (Ne.symm N1.out) _) (Ne.symm N1.out) _) (Ne.symm N1.out) _
      · rw [HX.out]
        have o := O2.out
        refine ownsRow_more ?_ (show x ≤ W0.heap.size by omega)
        exact ownsRow_setCell_other (ownsRow_setCell_other (ownsRow_setCell_other (ownsRow_setCell_other (ownsRow_setCell_other o (Ne.symm N2.out) _) (Ne.symm N2.out) _) (Ne.symm N2.out) _) (Ne.symm N2.out) _) (Ne.symm N2.out) _
      · rw [HX.out]
        exact ((((HBE.out.setCell (by simp) _).setCell (by simp) _).setCell (by simp) _).setCell (by simp) _).setCell (by simp) _
end Go.Proofs.YtlbgocgocanloaaGreatDoor

/- The reference: an event applied, kind by kind. -/
namespace Go.Proofs.YtlbgocgocanloaaGreatDoor
open Go.RowKit
theorem InPlace_val (D T S p : Int) (b : Bool) (hb : inPlaceB T S p = b) (w : World) (hp : 0 ≤ p ∧ p ≤ 1000000000) (hT : 0 ≤ T ∧ T ≤ 1000000000) :
    Calls Tryz.prog 66 #[.agg #[.int .i64 D, .int .i64 T, .int .i64 S], .int .i64 p] w fun e w' => e = .returned (.bool b) ∧ Below w.heap.size w w' := by
  rw [← hb]
  exact InPlace_any D T S p w hp hT
theorem anyOpen_val (A : Option Addr) (n c B : Nat) (l : List Bool) (b : Bool) (hb : hasB l true = b) (w : World) (hn : n ≤ 1000000000) (hl : l.length = n) (h : Rd w B A (l.map .bool)) :
    Calls Tryz.prog 65 #[.slice A n c] w fun e w' => e = .returned (.bool b) ∧ w = w' := by
  rw [← hb]
  exact anyOpen_any A n c B l w hn hl h
/-- a state in memory from block x on -/
def StOwn (x : Nat) (w' : World) (s : Tr) (D : Nat) (v : Value) : Prop := ∃ g1 g2 c1 c2, v = stV s (some ⟨g1, 0, none⟩) (some ⟨g2, 0, none⟩) D D c1 c2 ∧ OwnSt w' x g1 g2 D D c1 c2 s
/-- what ref.Apply leaves: a state of its own, or an error -/
def RApplyPost (w : World) (D : Nat) (s' : Tr) (c : Int) (e : Ending) (w' : World) : Prop :=
  (∃ v, e = .returned (.tuple #[v, .int .i64 c]) ∧ if c = 0 then StOwn w.heap.size w' s' D v else v = zeroSt) ∧ Below w.heap.size w w'
/-- the world behind the copy -/
structure ApAt (w W : World) (x y g1 g2 D c1 c2 : Nat) (T S : Int) (Ag Ad : Option Addr) (cg cd : Nat) (s : Tr) (k pl dr : Int) : Prop where
  r : W.heap[x]? = some (.cells #[.int .i64 D, .int .i64 T, .int .i64 S] 40 (0, 0))
  st : W.heap[x + 1]? = some (.cells #[.bool s.mv, .bool s.al, .int .i64 s.place, .slice Ag D cg, .slice Ad D cd] 52 (0, 0))
  ev : W.heap[x + 2]? = some (.cells #[.int .i64 k, .int .i64 pl, .int .i64 dr] 23 (0, 0))
  res : W.heap[x + 3]? = some (.cells #[.bool false, .bool false, .int .i64 0, .slice none 0 0, .slice none 0 0] 52 (0, 0))
  cp : W.heap[y]? = some (.cells #[.bool s.mv, .bool s.al, .int .i64 s.place, .slice (some ⟨g1, 0, none⟩) D c1, .slice (some ⟨g2, 0, none⟩) D c2] 52 (0, 0))
  own : OwnSt W (x + 4) g1 g2 D D c1 c2 s
  at_ : StAt W x Ag Ad D D s
  ye : x + 4 ≤ y
  yg : y ≠ g1
  yd : y ≠ g2
  hx : w.heap.size = x
  below : Below x w W
end Go.Proofs.YtlbgocgocanloaaGreatDoor
