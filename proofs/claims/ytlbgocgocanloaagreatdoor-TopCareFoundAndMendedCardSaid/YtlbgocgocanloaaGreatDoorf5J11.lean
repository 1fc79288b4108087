/- FirstWork: what the code returns. -/
import Derived.Test.YtlbgocgocanloaaGreatDoorf5J5
import Derived.Test.YtlbgocgocanloaaGreatDoorf5J4
import Derived.Maps.OwnSet
namespace Go.Proofs.YtlbgocgocanloaaGreatDoor
open Go.RowKit
set_option maxRecDepth 100000 in
set_option maxHeartbeats 4000000 in
theorem FirstWork_yes (w : World) (B : Nat) (Aw Aj : Option Addr) (nw cw nj cj : Nat) (W : List Int) (J : List Jb) (hl : W.length = nw) (hlj : J.length = nj) (hw : Rd w B Aw (intCells W)) (hj : Rd w B Aj (evCells J)) (hB : B ≤ w.heap.size) (hn : nw ≤ 1000000) (hm : nj ≤ 1000000) (hc : nj ≤ cj) (h0 : workM W J = 0) (R : Option (List Int)) (hR : placeM J W = R) :
    Calls Tryz.prog 36 #[.agg #[.slice Aw nw cw, .slice Aj nj cj]] w (LeastOutPost w R (leastE R)) := by
  have hb0 : Below w.heap.size w (w.alloc (.cells #[.slice Aw nw cw, .slice Aj nj cj] 79)) := (Below.refl _ _).alloc (Nat.le_refl _) _
  have k0 : (w.alloc (.cells #[.slice Aw nw cw, .slice Aj nj cj] 79)).heap[w.heap.size]? = some (.cells #[.slice Aw nw cw, .slice Aj nj cj] 79 (0, 0)) := by rw [heapq_alloc, if_pos rfl]
  have c0 := (cell_of_row _ _ 0 _ _ _ k0).trans (by rfl : _ = some (.slice Aw nw cw))
  have c1 := (cell_of_row _ _ 1 _ _ _ k0).trans (by rfl : _ = some (.slice Aj nj cj))
  have hw0 := hw.below (hb0.mono hB)
  have hj0 := hj.below (hb0.mono hB)
  have hs0 : w.heap.size ≤ (w.alloc (.cells #[.slice Aw nw cw, .slice Aj nj cj] 79)).heap.size := hb0.size
  have hB0 := Nat.le_trans hB hs0
  have HL := Lib.hid hl
  have HLJ := Lib.hid hlj
  have HB := Lib.hid hb0
  have WE := workErr_any (w.alloc (.cells #[.slice Aw nw cw, .slice Aj nj cj] 79)) B Aw Aj nw cw nj cj W J hl hlj hw0 hj0 hB0 hn hm
  unfold ErrVal at WE
  rw [h0] at WE
  obtain ⟨g1, g2, g3, g4⟩ := workM_zero h0
  rw [hl] at g1 g4
  have PL := place_all nw g1.2 J (by omega)
  have HR := Lib.hid hR
  clear hw hj hl hlj hb0 k0 h0 hR
  go_enter Tryz.func36, Tryz.ntmps36
  go_upto_region 1 with (fail)
  generalize (w.alloc (.cells #[.slice Aw nw cw, .slice Aj nj cj] 79)) = w0 at *
  go_upto_region 4 with (go_at_call 83; refine WE.mono ?_; rintro e w1 ⟨rfl, hb1⟩)
  replace c0 := kept hb1 c0
  replace c1 := kept hb1 c1
  replace hw0 := hw0.below (hb1.mono hB0)
  replace hj0 := hj0.below (hb1.mono hB0)
  replace HB := Lib.hid (HB.out.trans (hb1.mono hs0))
  replace hs0 := Nat.le_trans hs0 hb1.size
  replace hB0 := Nat.le_trans hB0 hb1.size
  clear hb1
  clear WE
  have C := PL w1 B Aj Aw nj cj cw W HLJ.out HL.out hc hj0 hw0 hB0 g4 g3
  rw [HR.out] at C
  unfold RefLeastPost at C
  clear g1 g2 g3 g4 hj0 hw0 HR PL
  cases R with
  | none =>
    simp only [BeamsAt, Option.isSome_none] at C
    go_wp2_with (first | (go_at_call 84; refine C.mono ?_; rintro e2 w4 ⟨v, rfl, rfl, hb4⟩) | (go_at_call 62; refine (unless_any _ _ _).mono ?_; rintro e3 w5 ⟨rfl, rfl⟩))
    go_ret2
    exact ⟨.slice none 0 0, rfl, rfl, HB.out.trans (hb4.mono hs0)⟩
  | some T =>
    simp only [BeamsAt, Option.isSome_some] at C
    go_wp2_with (first | (go_at_call 84; refine C.mono ?_; rintro e2 w4 ⟨v, rfl, ⟨A4, c4, rfl, hT4⟩, hb4⟩) | (go_at_call 62; refine (unless_any _ _ _).mono ?_; rintro e3 w5 ⟨rfl, rfl⟩))
    go_ret2
    exact ⟨.slice A4 T.length c4, rfl, ⟨A4, c4, rfl, hT4⟩, HB.out.trans (hb4.mono hs0)⟩
end Go.Proofs.YtlbgocgocanloaaGreatDoor

/- Work in the reference: what windows are accepted. -/
namespace Go.Proofs.YtlbgocgocanloaaGreatDoor
open Go.RowKit
def IntsRowPost (w : World) (l : List Int) (n : Nat) (e : Ending) (w' : World) : Prop :=
  ∃ g c, e = .returned (.slice (some ⟨g, 0, none⟩) n c) ∧ w'.ownsRow w.heap.size 3 1 (.slice (some ⟨g, 0, none⟩) n c) n (intCells l) ∧ Below w.heap.size w w'
set_option maxHeartbeats 1000000 in
theorem CopyIntsR (w : World) (B : Nat) (A : Option Addr) (n c : Nat) (l : List Int) (hl : l.length = n) (hn : n ≤ 1000000) (h : Rd w B A (intCells l)) (hB : B ≤ w.heap.size) :
    Calls Tryz.prog 73 #[.slice A n c] w (IntsRowPost w l n) := by
  obtain ⟨i1, hi1, hy0, hy1, hy2⟩ := info_parts info3
  have HL := Lib.hid hl
  have h' := h.below (((Below.refl _ _).alloc (Nat.le_refl _) (.cells #[] 3) : Below w.heap.size w (w.alloc (.cells #[] 3))).mono hB)
  have hb0 : Below w.heap.size w (w.alloc (.cells #[] 3)) := (Below.refl _ _).alloc (Nat.le_refl _) _
  clear hl
  go_enter Tryz.func73, Tryz.ntmps73
  go_wp2_with (at_builtin; refine stp ?_)
  unfold Stp
  refine wpList_append_copy _ rfl _ _ 44 rfl w.heap.size 3 i1 _ 1 8 Tryz.underlying44 hi1 hy0 hy1 hy2 rfl (by omega) w.heap.size rfl (by rw [heapq_alloc, if_pos rfl]) (Nat.le_refl _) B A n c (intCells l) rfl (by rw [intCells_len, HL.out, Nat.mul_one]) h' (intCells_one l) (by simp only [maxLen]; omega) (by omega) (by simp) ?_
  intro g cap w1 hown hgrow _
  have hb1 : Below w.heap.size w w1 := hb0.grown hgrow (by simp) (fun k hk => by rw [← Option.some.inj hk]; exact Nat.le_refl _)
  have HR := Lib.hid hown
  have HB := Lib.hid hb1
  clear hown hgrow hb0 hb1 h h'
  go_wp2
  go_ret
  exact ⟨_, _, rfl, HR.out, HB.out⟩
end Go.Proofs.YtlbgocgocanloaaGreatDoor

/- CopyWork: the copy lies in memory of its own. -/
namespace Go.Proofs.YtlbgocgocanloaaGreatDoor
open Go.RowKit
def WorkOwn (w : World) (pp : List Int) (ws : List Ev) (np nw : Nat) (e : Ending) (w' : World) : Prop :=
  ∃ g1 c1 g2 c2, e = .returned (.agg #[.slice (some ⟨g1, 0, none⟩) np c1, .slice (some ⟨g2, 0, none⟩) nw c2]) ∧ w'.ownsRow w.heap.size 3 1 (.slice (some ⟨g1, 0, none⟩) np c1) np (intCells pp) ∧ w'.ownsRow w.heap.size 81 3 (.slice (some ⟨g2, 0, none⟩) nw c2) nw (evCells ws) ∧ Below w.heap.size w w'
set_option maxRecDepth 100000 in
set_option maxHeartbeats 4000000 in
theorem CopyWork_own (w : World) (B : Nat) (Ap Aw : Option Addr) (np cp nw cw : Nat) (pp : List Int) (ws : List Ev) (hl : pp.length = np) (hlw : ws.length = nw) (hn : np ≤ 1000000) (hm : nw ≤ 1000000) (hp : Rd w B Ap (intCells pp)) (hw : Rd w B Aw (evCells ws)) (hB : B ≤ w.heap.size) :
    Calls Tryz.prog 37 #[.agg #[.slice Ap np cp, .slice Aw nw cw]] w (WorkOwn w pp ws np nw) := by
  obtain ⟨i1, hi1, hy0, hy1, hy2⟩ := info_parts info81
  have hb0 : Below w.heap.size w ((w.alloc (.cells #[.slice Ap np cp, .slice Aw nw cw] 79)).alloc (.cells #[.slice none 0 0, .slice none 0 0] 79)) := ((Below.refl _ _).alloc (Nat.le_refl _) _).alloc (by simp) _
  have k0 : ((w.alloc (.cells #[.slice Ap np cp, .slice Aw nw cw] 79)).alloc (.cells #[.slice none 0 0, .slice none 0 0] 79)).heap[w.heap.size]? = some (.cells #[.slice Ap np cp, .slice Aw nw cw] 79 (0, 0)) := by
    rw [heapq_alloc, if_neg (by simp), heapq_alloc, if_pos rfl]
  have k1 : ((w.alloc (.cells #[.slice Ap np cp, .slice Aw nw cw] 79)).alloc (.cells #[.slice none 0 0, .slice none 0 0] 79)).heap[w.heap.size + 1]? = some (.cells #[.slice none 0 0, .slice none 0 0] 79 (0, 0)) := by
    rw [heapq_alloc, if_pos (by simp)]
  have hp0 := hp.below (hb0.mono hB)
  have hw0 := hw.below (hb0.mono hB)
  have hs1 : w.heap.size ≤ ((w.alloc (.cells #[.slice Ap np cp, .slice Aw nw cw] 79)).alloc (.cells #[.slice none 0 0, .slice none 0 0] 79)).heap.size := by simp; omega
  have hx1 : w.heap.size + 1 < ((w.alloc (.cells #[.slice Ap np cp, .slice Aw nw cw] 79)).alloc (.cells #[.slice none 0 0, .slice none 0 0] 79)).heap.size := by simp
  have HB := Lib.hid hb0
  have HL := Lib.hid hl
  have HLW := Lib.hid hlw
  have K1 := Lib.hid k1
  have a0 : ((w.alloc (.cells #[.slice Ap np cp, .slice Aw nw cw] 79)).alloc (.cells #[.slice none 0 0, .slice none 0 0] 79)).cell? ⟨w.heap.size, 0, none⟩ = some (.slice Ap np cp) := (cell_of_row ((w.alloc (.cells #[.slice Ap np cp, .slice Aw nw cw] 79)).alloc (.cells #[.slice none 0 0, .slice none 0 0] 79)) w.heap.size 0 _ _ _ k0).trans rfl
  have a1 : ((w.alloc (.cells #[.slice Ap np cp, .slice Aw nw cw] 79)).alloc (.cells #[.slice none 0 0, .slice none 0 0] 79)).cell? ⟨w.heap.size, 1, none⟩ = some (.slice Aw nw cw) := (cell_of_row ((w.alloc (.cells #[.slice Ap np cp, .slice Aw nw cw] 79)).alloc (.cells #[.slice none 0 0, .slice none 0 0] 79)) w.heap.size 1 _ _ _ k0).trans rfl
  have HX := Lib.hid hx1
  clear hl hlw hp hw hb0 k0 k1 hx1
  go_enter Tryz.func37, Tryz.ntmps37
  go_upto_region 1 with (fail)
  generalize ((w.alloc (.cells #[.slice Ap np cp, .slice Aw nw cw] 79)).alloc (.cells #[.slice none 0 0, .slice none 0 0] 79)) = W0 at *
  have hBW : B ≤ W0.heap.size := Nat.le_trans hB hs1
  generalize hx : w.heap.size = x at *
  have HXX := Lib.hid hx
  clear hx
  have x0 := fun y : Xt W0 => y.cell a0
  have x1 := fun y : Xt W0 => y.cell a1
  refine wp_region_eager [7, 8] (fun w' => ∃ y : Xt W0, w' = y.1) (by kernel_rfl) ⟨⟨W0.drew, (Below.refl _ _).drew⟩, rfl⟩ ?_
  refine wpE_reads [0, 1, 4, 5] 5 rfl (by kernel_rfl) ?_
  simp only [opsAt_nil, opsAt_cons, consOpt_some, List.getElem?_toArray, List.getElem?_cons_zero, List.getElem?_cons_succ]
  repeat (go_big_quiet_step (fail))
  refine wpQuiet_nil ?_
  have hbd : Below W0.heap.size W0 W0.drew := (Below.refl _ _).drew
  show wpE _ _ _ _ _ _ _ _ _ W0.drew
  generalize W0.drew = wd at *
  clear x0 x1 a0 a1
  refine wpE_two (i := 2) (k := 3) rfl (by kernel_rfl) rfl rfl ?_ ?_
  · unfold wpMid
    simp only [opsAt_nil, opsAt_cons, consOpt_some, List.getElem?_toArray, List.getElem?_cons_zero, List.getElem?_cons_succ]
    go_wp2_with (go_at_call 73; refine (CopyIntsR wd B Ap np cp pp HL.out hn (hp0.below (hbd.mono hBW)) (Nat.le_trans hBW hbd.size)).mono ?_; rintro e w2 ⟨g1, cR, rfl, hR, hb2⟩)
    have hb02 := hbd.trans (hb2.mono hbd.size)
    refine onlyNormal_mk ⟨⟨⟨_, hb02⟩, rfl⟩, ?_⟩
    refine wpE_one (i := 3) rfl (by kernel_rfl) rfl ?_
    unfold wpMid
    simp only [opsAt_nil, opsAt_cons, consOpt_some, List.getElem?_toArray, List.getElem?_cons_zero, List.getElem?_cons_succ]
    go_wp2
    have hb03 : Below W0.heap.size W0 (w2.alloc (.cells #[] 81)) := hb02.alloc hb02.size _
    have gq : (w2.alloc (.cells #[] 81)).heap[w2.heap.size]? = some (.cells #[] 81 (0, 0)) := by rw [heapq_alloc, if_pos rfl]
    have hR3 := ownsRow_below hR ((Below.refl _ _).alloc (Nat.le_refl _) (.cells #[] 81))
    have hg : W0.heap.size ≤ w2.heap.size := hb02.size
    clear hR
    generalize w2.alloc (.cells #[] 81) = w3 at *
    generalize w2.heap.size = g at *
    refine onlyNormal_mk ⟨⟨⟨_, hb03⟩, rfl⟩, ?_⟩
    refine wpE_one (i := 6) rfl (by kernel_rfl) rfl ?_
    unfold wpMid
    simp only [opsAt_nil, opsAt_cons, consOpt_some, List.getElem?_toArray, List.getElem?_cons_zero, List.getElem?_cons_succ]
    have hrd := hw0.below (hb03.mono hBW)
    have hgl := lt_of_block gq
    have n3 : g1 ≠ g := Ne.symm (ownBlk_ne hR3 rfl gq (by decide))
    refine wpList_append_copy w3 rfl _ _ 77 rfl g 81 i1 _ 3 24 Tryz.underlying77 hi1 hy0 hy1 hy2 rfl (by omega) g rfl gq (Nat.le_refl _) B Aw nw cw (evCells ws) rfl (by rw [evCells_len, HLW.out]) hrd (evCells_one ws) (by simp only [maxLen]; omega) (by omega) (Nat.le_of_lt hgl) ?_
    intro G cG w4 hown hgrow _
    have hb4 : Below W0.heap.size W0 w4 := hb03.grown hgrow hb03.size (fun k hk => by rw [← Option.some.inj hk]; exact hg)
    have hG := ownBlk hown rfl
    have hR4 := hR3.kept hgrow (.inr (by simp only [Value.ownBlock]; exact fun h => n3 (Option.some.inj h)))
    have hk4 := (hb4.block (x + 1) HX.out).trans K1.out
    have n4 : x + 1 ≠ g1 := ownBlk_ne hR4 rfl hk4 (by decide)
    have s4 := hgrow.size
    have m4 : x + 1 ≠ G := ownBlk_ne hown rfl hk4 (by decide)
    have hxW : x ≤ W0.heap.size := by have := HX.out; omega
    have RPP := ownsRow_more hR4 (base' := x) (Nat.le_trans hxW hbd.size)
    have RWW := ownsRow_more hown (base' := x) (Nat.le_trans hxW hg)
    clear hrd n3 hown hgrow hR4 hk4
    refine onlyNormal_mk ⟨⟨⟨_, hb4⟩, rfl⟩, ?_⟩
    refine wpE_tail rfl (by kernel_rfl) ?_
    simp only [opsAt_nil, opsAt_cons, consOpt_some, List.getElem?_toArray, List.getElem?_cons_zero, List.getElem?_cons_succ]
    have hk := (hb4.block (x + 1) HX.out).trans K1.out
    have t0 := cell_of_row w4 (x + 1) 0 _ _ _ hk
    have t1 := cell_of_row w4 (x + 1) 1 _ _ _ hk
    simp at t0 t1
    have q0 := frozen_of_row w4 (x + 1) 0 _ _ hk
    have q1 := frozen_of_row w4 (x + 1) 1 _ _ hk
    have RP := Lib.hid RPP
    clear RPP
    have RW := Lib.hid RWW
    clear RWW
    have HBE := Lib.hid (HB.out.trans (hb4.mono hs1))
    clear hk
    go_wp2
    refine onlyNormal_mk ?_
    go_wp2
    refine bodyPost_ret (v := .agg #[.slice (some ⟨g1, 0, none⟩) np cR, .slice (some ⟨G, 0, none⟩) nw cG]) (by simp [results, Tryz.results37, go_sem, t0, t1]) rfl ⟨g1, cR, _, cG, rfl, ?_, ?_, ?_⟩
    · rw [HXX.out]
      exact ownsRow_setCell_other (ownsRow_setCell_other RP.out (by simp [Value.ownBlock]; omega) _) (by simp [Value.ownBlock]; omega) _
    · rw [HXX.out]
      exact ownsRow_setCell_other (ownsRow_setCell_other RW.out (by simp [Value.ownBlock]; omega) _) (by simp [Value.ownBlock]; omega) _
    · rw [HXX.out]
      exact (HBE.out.setCell (p := ⟨x + 1, 0, none⟩) (Nat.le_add_right x 1) _).setCell (p := ⟨x + 1, 1, none⟩) (Nat.le_add_right x 1) _
  · unfold wpMid
    simp only [opsAt_nil, opsAt_cons, consOpt_some, List.getElem?_toArray, List.getElem?_cons_zero, List.getElem?_cons_succ]
    go_wp2
    have hb02 : Below W0.heap.size W0 (wd.alloc (.cells #[] 81)) := hbd.alloc hbd.size _
    have gq2 : (wd.alloc (.cells #[] 81)).heap[wd.heap.size]? = some (.cells #[] 81 (0, 0)) := by rw [heapq_alloc, if_pos rfl]
    have hg : W0.heap.size ≤ wd.heap.size := hbd.size
    generalize wd.alloc (.cells #[] 81) = w2 at *
    generalize wd.heap.size = g at *
    refine onlyNormal_mk ⟨⟨⟨_, hb02⟩, rfl⟩, ?_⟩
    refine wpE_one (i := 2) rfl (by kernel_rfl) rfl ?_
    unfold wpMid
    simp only [opsAt_nil, opsAt_cons, consOpt_some, List.getElem?_toArray, List.getElem?_cons_zero, List.getElem?_cons_succ]
    go_wp2_with (go_at_call 73; refine (CopyIntsR w2 B Ap np cp pp HL.out hn (hp0.below (hb02.mono hBW)) (Nat.le_trans hBW hb02.size)).mono ?_; rintro e w3 ⟨g1, cR, rfl, hR3, hb3⟩)
    have hb03 := hb02.trans (hb3.mono hb02.size)
    have gq := (hb3.block g (lt_of_block gq2)).trans gq2
    refine onlyNormal_mk ⟨⟨⟨_, hb03⟩, rfl⟩, ?_⟩
    refine wpE_one (i := 6) rfl (by kernel_rfl) rfl ?_
    unfold wpMid
    simp only [opsAt_nil, opsAt_cons, consOpt_some, List.getElem?_toArray, List.getElem?_cons_zero, List.getElem?_cons_succ]
    have hrd := hw0.below (hb03.mono hBW)
    have hgl := lt_of_block gq
    have n3 : g1 ≠ g := Ne.symm (ownBlk_ne hR3 rfl gq (by decide))
    refine wpList_append_copy w3 rfl _ _ 77 rfl g 81 i1 _ 3 24 Tryz.underlying77 hi1 hy0 hy1 hy2 rfl (by omega) g rfl gq (Nat.le_refl _) B Aw nw cw (evCells ws) rfl (by rw [evCells_len, HLW.out]) hrd (evCells_one ws) (by simp only [maxLen]; omega) (by omega) (Nat.le_of_lt hgl) ?_
    intro G cG w4 hown hgrow _
    have hb4 : Below W0.heap.size W0 w4 := hb03.grown hgrow hb03.size (fun k hk => by rw [← Option.some.inj hk]; exact hg)
    have hG := ownBlk hown rfl
    have hR4 := hR3.kept hgrow (.inr (by simp only [Value.ownBlock]; exact fun h => n3 (Option.some.inj h)))
    have hk4 := (hb4.block (x + 1) HX.out).trans K1.out
    have n4 : x + 1 ≠ g1 := ownBlk_ne hR4 rfl hk4 (by decide)
    have s4 := hgrow.size
    have m4 : x + 1 ≠ G := ownBlk_ne hown rfl hk4 (by decide)
    have hxW : x ≤ W0.heap.size := by have := HX.out; omega
    have RPP := ownsRow_more hR4 (base' := x) (Nat.le_trans hxW hb02.size)
    have RWW := ownsRow_more hown (base' := x) (Nat.le_trans hxW hg)
    clear hrd n3 hown hgrow hR4 hk4
    refine onlyNormal_mk ⟨⟨⟨_, hb4⟩, rfl⟩, ?_⟩
    refine wpE_tail rfl (by kernel_rfl) ?_
    simp only [opsAt_nil, opsAt_cons, consOpt_some, List.getElem?_toArray, List.getElem?_cons_zero, List.getElem?_cons_succ]
    have hk := (hb4.block (x + 1) HX.out).trans K1.out
    have t0 := cell_of_row w4 (x + 1) 0 _ _ _ hk
    have t1 := cell_of_row w4 (x + 1) 1 _ _ _ hk
    simp at t0 t1
    have q0 := frozen_of_row w4 (x + 1) 0 _ _ hk
    have q1 := frozen_of_row w4 (x + 1) 1 _ _ hk
    have RP := Lib.hid RPP
    clear RPP
    have RW := Lib.hid RWW
    clear RWW
    have HBE := Lib.hid (HB.out.trans (hb4.mono hs1))
    clear hk
    go_wp2
    refine onlyNormal_mk ?_
    go_wp2
    refine bodyPost_ret (v := .agg #[.slice (some ⟨g1, 0, none⟩) np cR, .slice (some ⟨G, 0, none⟩) nw cG]) (by simp [results, Tryz.results37, go_sem, t0, t1]) rfl ⟨g1, cR, _, cG, rfl, ?_, ?_, ?_⟩
    · rw [HXX.out]
      exact ownsRow_setCell_other (ownsRow_setCell_other RP.out (by simp [Value.ownBlock]; omega) _) (by simp [Value.ownBlock]; omega) _
    · rw [HXX.out]
      exact ownsRow_setCell_other (ownsRow_setCell_other RW.out (by simp [Value.ownBlock]; omega) _) (by simp [Value.ownBlock]; omega) _
    · rw [HXX.out]
      exact (HBE.out.setCell (p := ⟨x + 1, 0, none⟩) (Nat.le_add_right x 1) _).setCell (p := ⟨x + 1, 1, none⟩) (Nat.le_add_right x 1) _
end Go.Proofs.YtlbgocgocanloaaGreatDoor
