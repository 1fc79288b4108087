/- The greatest length of a walk between two events, where there is no cycle. -/
import Derived.Test.YtnnnpijepdjanaaGreatB14
namespace Go.Proofs.YtnnnpijepdjanaaGreat
open Go.RowKit

theorem run_neq_nil36 (W : World) : Sem.run Tryz.prog (binOp BinOp.neq 54 (.slice none 0 0) (.slice none 0 0)) W = .ok (.bool false) W := by kernel_rfl
theorem alone_bound (m e : Nat) : ∀ i u, farAt (aloneF m e) i = some u → -10000000 ≤ u ∧ u ≤ 10000000 := by
  intro i u h
  unfold aloneF farAt at h
  rw [List.getElem?_set] at h
  split at h
  · split at h
    · simp at h
      omega
    · simp at h
  · rw [List.getElem?_replicate] at h
    split at h <;> simp at h
theorem labs_nil (w : World) (d m : Nat) : LabsAt w d (List.replicate m (.pointer none)) (List.replicate m none) := by
  refine ⟨by simp, fun i v o hv ho => ?_⟩
  have hi : i < m := by
    have := (List.getElem?_eq_some_iff.1 hv).1
    simpa using this
  rw [List.getElem?_replicate, if_pos hi] at hv ho
  cases hv
  cases ho
  exact .inl ⟨rfl, rfl⟩
/-- the length of the walk, with its steps; or there is none -/
def BetPost (w : World) (o : Option Int) (e : Ending) (w' : World) : Prop :=
  (match o with
    | some k => ∃ A n c, e = .returned (.tuple #[.int .i64 k, .slice A n c, .int .i64 0])
    | none => e = .returned (.tuple #[.int .i64 0, .slice none 0 0, .int .i64 12])) ∧ Below w.heap.size w w'
set_option maxRecDepth 100000 in
set_option maxHeartbeats 8000000 in
theorem Between_any (w : World) (B : Nat) (Ae Aa : Option Addr) (ne ce na ca : Nat) (evs : List ByteArray) (acts : List Act) (h : NetAt w B Ae Aa ne ce na evs acts) (hB : B ≤ w.heap.size) (hR : NetR evs acts)
    (a b : Nat) (ha : a < ne) (hb : b < ne) (hab : a ≠ b) (hc : (longM (waysM acts) ne (zerosF ne)).2 = false) :
    Calls Tryz.prog 20 #[netV Ae ne ce Aa na ca, .int .i64 a, .int .i64 b] w (BetPost w (farAt (longM (waysM acts) ne (aloneF ne a)).1 b)) := by
  have hne1 : 1 ≤ ne := by rw [← h.le]; exact hR.e1
  have hne2 : ne ≤ 16 := by rw [← h.le]; exact hR.e2
  have hna1 : na ≤ 30 := by rw [← h.la]; exact hR.a1
  have hac : ∀ a ∈ acts, actR ne a := by rw [← h.le]; exact hR.ac
  have hlen : (longM (waysM acts) ne (aloneF ne a)).1.length = ne := by
    obtain ⟨t, _, hq, _⟩ := long_iter (ws := waysM acts) ne (l := aloneF ne a) (q := (longM (waysM acts) ne (aloneF ne a)).1) (b := (longM (waysM acts) ne (aloneF ne a)).2) rfl
    rw [hq, iterF_len]
    simp [aloneF]
  have hmk := run_make_row' (P := Tryz.prog) 73 74 (.pointer none) 8 Tryz.underlying73 info74 rfl .i64 .i64 ne (by omega) (by omega)
  have hb0 : Below w.heap.size w (w.alloc (.cells #[.slice Ae ne ce, .slice Aa na ca] 25)) := (Below.refl _ _).alloc (Nat.le_refl _) _
  have k0 : (w.alloc (.cells #[.slice Ae ne ce, .slice Aa na ca] 25)).heap[w.heap.size]? = some (.cells #[.slice Ae ne ce, .slice Aa na ca] 25 (0, 0)) := by rw [heapq_alloc, if_pos rfl]
  have hN := h.below (hb0.mono hB)
  have hB0 := Nat.le_trans hB hb0.size
  have hs := hb0.size
  have HB := Lib.hid hb0
  obtain ⟨d0, d1⟩ := cells2 k0
  have OP := fun (W : World) (hW : NetAt W B Ae Aa ne ce na evs acts) (hBW : B ≤ W.heap.size) => open_right W B Ae Aa ne ce na ca evs acts hW hBW hR
  have EE := fun (W : World) (i : Int) => eventErr_any W Ae ne ce Aa na ca i (by omega)
  have CY := fun (W : World) (hW : NetAt W B Ae Aa ne ce na evs acts) (hBW : B ≤ W.heap.size) => cycle_none W B Ae Aa ne ce na ca evs acts hW hBW hR hc
  have LG := fun (W : World) (hW : NetAt W B Ae Aa ne ce na evs acts) (hBW : B ≤ W.heap.size) (A2 : Option Addr) (c2 : Nat) (vs : List Value) (hv : LabsAt W 0 vs (aloneF ne a)) (hrd : Rd W W.heap.size A2 vs) => longest_any W B Ae Aa ne ce na ca evs acts hW hBW (by omega) hac A2 c2 0 vs (aloneF ne a) (by simp [aloneF]) hne1 hne2 hv hrd (alone_bound ne a)
  unfold netV at OP ⊢
  unfold OpenPost at OP
  obtain ⟨r, hrr⟩ : ∃ r, longM (waysM acts) ne (aloneF ne a) = r := ⟨_, rfl⟩
  rw [hrr] at LG hlen ⊢
  obtain ⟨o, ho⟩ : ∃ o, r.1[b]? = some o := ⟨_, List.getElem?_eq_getElem (by omega)⟩
  have hfo : farAt r.1 b = o := by unfold farAt; rw [ho]; rfl
  rw [hfo]
  clear hfo
  have hna : ((a : Int) != (b : Int)) = true := bne_iff_ne.2 (by omega)
  have wa : withinB (a : Int) 0 ((ne : Int) - 1) = true := withinB_true (by omega) (by omega)
  have wb : withinB (b : Int) 0 ((ne : Int) - 1) = true := withinB_true (by omega) (by omega)
  clear hb0 h hrr hc hR hac
  go_enter Tryz.func20, Tryz.ntmps20
  go_upto_region 1 with (fail)
  generalize (w.alloc (.cells #[.slice Ae ne ce, .slice Aa na ca] 25)) = w0 at *
  go_upto_region 2 with (go_at_call 27; refine (OP _ hN hB0).mono ?_; rintro e w1 ⟨rfl, hb1⟩; have hbA := hb1.trans ((Below.refl w1.heap.size w1).alloc (Nat.le_refl _) (.cells #[.slice Ae ne ce, .slice Aa na ca] 66) |>.mono hb1.size))
  have kN : (w1.alloc (.cells #[.slice Ae ne ce, .slice Aa na ca] 66)).heap[w1.heap.size]? = some (.cells #[.slice Ae ne ce, .slice Aa na ca] 66 (0, 0)) := by rw [heapq_alloc, if_pos rfl]
  replace k0 := blk hbA k0
  replace hN := hN.below (hbA.mono hB0)
  replace HB := Lib.hid (HB.out.trans (hbA.mono hs))
  replace hs := Nat.le_trans hs hbA.size
  replace hB0 := Nat.le_trans hB0 hbA.size
  clear hb1 hbA d0 d1 OP
  generalize w1.alloc (.cells #[.slice Ae ne ce, .slice Aa na ca] 66) = w2 at *
  generalize w1.heap.size = y at *
  obtain ⟨d0, d1⟩ := cells2 kN
  have x0 := fun x : Xt w2 => x.cell d0
  have x1 := fun x : Xt w2 => x.cell d1
  refine wp_region_cut [] [0, 1, 2, 3, 4, 5, 6, 7, 8, 9, 10] 11 [12, 13] (fun w' => ∃ y : Xt w2, w' = y.1) (by kernel_rfl) (by kernel_rfl) ⟨⟨w2.drew, (Below.refl _ _).drew⟩, rfl⟩ ?_
  simp only [opsAt_nil, opsAt_cons, consOpt_some, List.getElem?_toArray, List.getElem?_cons_zero, List.getElem?_cons_succ]
  refine wpQuiet_nil ?_
  show wpQuiet _ _ _ _ _ _
  repeat (go_big_quiet_step (first | (go_at_call 36; exact Xt.calls_same (unless_any _ _ _)) | (go_at_call 35; exact Xt.calls (EE _ _))))
  refine wpQuiet_nil ?_
  intro w3 hx
  have hbX := Xt.below hx
  clear hx x0 x1 EE
  have F4 := fun a b c d => first4 w3 a b c d
  go_wp2_with (go_at_call 28; refine (F4 _ _ _ _).mono ?_; rintro e w' ⟨rfl, rfl⟩)
  refine onlyNormal_mk ?_
  clear F4
  generalize hE : firstE _ = E0
  have hE0 : E0 = 0 := by
    rw [← hE]
    simp [firstE, unlessE]
  generalize hw4 : w3.alloc _ = w4
  have hb1 : Below w2.heap.size w2 w4 := by rw [← hw4]; exact hbX.alloc hbX.size _
  clear hw4 hE hbX hna wa wb
  subst hE0
  replace k0 := blk hb1 k0
  replace kN := blk hb1 kN
  replace hN := hN.below (hb1.mono hB0)
  replace HB := Lib.hid (HB.out.trans (hb1.mono hs))
  replace hs := Nat.le_trans hs hb1.size
  replace hB0 := Nat.le_trans hB0 hb1.size
  clear hb1 d0 d1
  obtain ⟨d0, d1⟩ := cells2 kN
  obtain ⟨f0, f1⟩ := cells2 k0
  have qn := run_neq_nil36
  go_upto_region 7 with (go_at_call 37; refine (CY _ hN hB0).mono ?_; rintro e w5 ⟨rfl, hb1⟩; replace d0 := kept hb1 d0; replace d1 := kept hb1 d1; replace f0 := kept hb1 f0)
  replace hN := hN.below (hb1.mono hB0)
  replace HB := Lib.hid (HB.out.trans (hb1.mono hs))
  replace hs := Nat.le_trans hs hb1.size
  replace hB0 := Nat.le_trans hB0 hb1.size
  clear hb1 CY k0 kN f1
  go_upto_region 8 with (fail)
  have hg6 : (w5.alloc (.cells (madeCells #[.pointer none] ne) 74)).heap[w5.heap.size]? = some (.cells (madeCells #[.pointer none] ne) 74 (0, 0)) := by rw [heapq_alloc, if_pos rfl]
  have hbA : Below w5.heap.size w5 (w5.alloc (.cells (madeCells #[.pointer none] ne) 74)) := (Below.refl _ _).alloc (Nat.le_refl _) _
  replace d0 := kept hbA d0
  replace d1 := kept hbA d1
  replace hN := hN.below (hbA.mono hB0)
  replace HB := Lib.hid (HB.out.trans (hbA.mono hs))
  have hgs : w.heap.size ≤ w5.heap.size := hs
  have hBg : B ≤ w5.heap.size := hB0
  replace hs := Nat.le_trans hs hbA.size
  replace hB0 := Nat.le_trans hB0 hbA.size
  clear hmk qn hbA f0
  generalize w5.alloc (.cells (madeCells #[.pointer none] ne) 74) = w6 at *
  generalize w5.heap.size = g at *
  have hbL : Below w6.heap.size w6 (w6.alloc (.cells #[.int .i64 0, .int .i64 0, .bool false, .int .i64 0, .int .i64 0, .int .i64 0, .pointer none] 83)) := (Below.refl _ _).alloc (Nat.le_refl _) _
  have hg7 := blk hbL hg6
  have kL : (w6.alloc (.cells #[.int .i64 0, .int .i64 0, .bool false, .int .i64 0, .int .i64 0, .int .i64 0, .pointer none] 83)).heap[w6.heap.size]? = some (.cells #[.int .i64 0, .int .i64 0, .bool false, .int .i64 0, .int .i64 0, .int .i64 0, .pointer none] 83 (0, 0)) := by rw [heapq_alloc, if_pos rfl]
  replace d0 := kept hbL d0
  replace d1 := kept hbL d1
  have hma : (madeCells #[Value.pointer none] ne)[a]? = some (.pointer none) := by
    rw [← Array.getElem?_toList, toList_madeCells_one, List.getElem?_replicate, if_pos ha]
  have cga := (cell_of_row _ _ a _ _ _ hg7).trans hma
  have fa := frozen_of_row _ _ a _ _ hg7
  have gq : w6.heap.size ≠ g := by
    have := (Array.getElem?_eq_some_iff.1 hg6).1
    omega
  have yg : y ≠ g := fun e => by
    subst e
    have h9 := cell_of_row _ _ 0 _ _ _ hg7
    rw [d0, ← Array.getElem?_toList, toList_madeCells_one, List.getElem?_replicate] at h9
    split at h9 <;> simp at h9
  go_wp2_with (go_at_call 30; refine stp ?_)
  unfold Stp
  have hg8 : ((w6.alloc (.cells #[.int .i64 0, .int .i64 0, .bool false, .int .i64 0, .int .i64 0, .int .i64 0, .pointer none] 83)).setCell ⟨g, a, none⟩ (.pointer (some ⟨w6.heap.size, 0, none⟩))).heap[g]? = some (.cells ((madeCells #[.pointer none] ne).setIfInBounds a (.pointer (some ⟨w6.heap.size, 0, none⟩))) 74 (0, 0)) := by
    rw [heapq_set, if_pos rfl, hg7]
    rfl
  have kL8 : ((w6.alloc (.cells #[.int .i64 0, .int .i64 0, .bool false, .int .i64 0, .int .i64 0, .int .i64 0, .pointer none] 83)).setCell ⟨g, a, none⟩ (.pointer (some ⟨w6.heap.size, 0, none⟩))).heap[w6.heap.size]? = some (.cells #[.int .i64 0, .int .i64 0, .bool false, .int .i64 0, .int .i64 0, .int .i64 0, .pointer none] 83 (0, 0)) := by
    rw [heapq_set, if_neg gq, kL]
  have hb8 : Below g w6 ((w6.alloc (.cells #[.int .i64 0, .int .i64 0, .bool false, .int .i64 0, .int .i64 0, .int .i64 0, .pointer none] 83)).setCell ⟨g, a, none⟩ (.pointer (some ⟨w6.heap.size, 0, none⟩))) := (hbL.mono (Nat.le_of_lt (Array.getElem?_eq_some_iff.1 hg6).1)).setCell (p := ⟨g, a, none⟩) (Nat.le_refl _) _
  clear cga fa hma kL hbL hg7 gq yg
  have hrdA := Rd_of_block hg8
  rw [Array.toList_setIfInBounds, toList_madeCells_one] at hrdA
  have hvA : LabsAt ((w6.alloc (.cells #[.int .i64 0, .int .i64 0, .bool false, .int .i64 0, .int .i64 0, .int .i64 0, .pointer none] 83)).setCell ⟨g, a, none⟩ (.pointer (some ⟨w6.heap.size, 0, none⟩))) 0 ((List.replicate ne (.pointer none)).set a (.pointer (some ⟨w6.heap.size, 0, none⟩))) (aloneF ne a) := (labs_nil _ 0 ne).set (.root kL8) (Nat.le_refl 0)
  have hN8 := hN.below (hb8.mono hBg)
  replace HB := Lib.hid (HB.out.trans (hb8.mono hgs))
  replace hs := Nat.le_trans hgs (Nat.le_trans (Nat.le_of_lt (Array.getElem?_eq_some_iff.1 hg6).1) hb8.size)
  replace hB0 := Nat.le_trans hBg (Nat.le_trans (Nat.le_of_lt (Array.getElem?_eq_some_iff.1 hg6).1) hb8.size)
  clear hg8 kL8 hb8 hN d0 d1 hg6
  generalize (w6.alloc (.cells #[.int .i64 0, .int .i64 0, .bool false, .int .i64 0, .int .i64 0, .int .i64 0, .pointer none] 83)).setCell ⟨g, a, none⟩ (.pointer (some ⟨w6.heap.size, 0, none⟩)) = w8 at *
  generalize (Value.pointer (some ⟨w6.heap.size, 0, none⟩)) = p0 at *
  refine (LG w8 hN8 hB0 _ _ _ hvA hrdA).mono ?_
  rintro e w9 ⟨A3, c3, vs3, p, rfl, hrd3, hlab3, -, -, hb9⟩
  clear LG hvA hrdA hN8
  replace HB := Lib.hid (HB.out.trans (hb9.mono hs))
  replace hs := Nat.le_trans hs hb9.size
  clear hb9
  obtain ⟨v, hv⟩ : ∃ v, vs3[b]? = some v := ⟨_, List.getElem?_eq_getElem (by rw [hlab3.1]; omega)⟩
  obtain ⟨b3, off, hA3, hlt3, e1⟩ := hrd3 b v hv
  subst hA3
  have hlo := hlab3.2 b v o hv ho
  clear hrd3 hlab3 hv ho hlen
  cases hlo with
  | inl hq =>
    obtain ⟨rfl, rfl⟩ := hq
    go_wp2
    refine bodyPost_ret (v := .tuple #[.int .i64 0, .slice none 0 0, .int .i64 12]) (by simp [results, Tryz.results20, go_sem]) rfl ?_
    exact ⟨rfl, HB.out⟩
  | inr hq =>
    obtain ⟨u, n, hn, rfl, hl⟩ := hq
    obtain ⟨g4, rfl, cur, hcur, hc0⟩ := hl.cell
    have l0 := (cell_of_row _ _ 0 _ _ _ hcur).trans hc0
    have HL := Lib.hid hl
    clear hl hc0 hcur
    have x1 := fun x : Xt w9 => x.cell e1
    have x2 := fun x : Xt w9 => x.cell l0
    go_upto_region 12 with (fail)
    clear e1 l0
    refine wp_region_eager [14] (fun w' => ∃ x : Xt w9, w' = x.1) (by kernel_rfl) ⟨⟨w9.drew, (Below.refl _ _).drew⟩, rfl⟩ ?_
    refine wpE_reads [0, 1, 2, 3, 4, 5, 6, 7, 8, 9, 10] 4 rfl (by kernel_rfl) ?_
    simp only [opsAt_nil, opsAt_cons, consOpt_some, List.getElem?_toArray, List.getElem?_cons_zero, List.getElem?_cons_succ]
    repeat (go_big_quiet_step (fail))
    refine wpQuiet_nil ?_
    have hbd : Below w9.heap.size w9 w9.drew := (Below.refl _ _).drew
    have hst := fun (wd : World) (hbd : Below w9.heap.size w9 wd) => steps_any wd _ u n (by omega) (HL.out.kp (kpL_below hbd))
    show wpE _ _ _ _ _ _ _ _ _ w9.drew
    generalize w9.drew = wd at *
    refine wpE_one (i := 11) rfl (by kernel_rfl) rfl ?_
    unfold wpMid
    simp only [opsAt_nil, opsAt_cons, consOpt_some, List.getElem?_toArray, List.getElem?_cons_zero, List.getElem?_cons_succ]
    go_wp2_with (go_at_call 38; refine (hst wd hbd).mono ?_; rintro e w10 ⟨A5, n5, c5, rfl, hb10⟩)
    have hb11 := hbd.trans (hb10.mono hbd.size)
    refine onlyNormal_mk ⟨⟨⟨_, hb11⟩, rfl⟩, ?_⟩
    refine wpE_reads [12, 13] 1 rfl (by kernel_rfl) ?_
    simp only [opsAt_nil, opsAt_cons, consOpt_some, List.getElem?_toArray, List.getElem?_cons_zero, List.getElem?_cons_succ]
    repeat (go_big_quiet_step (fail))
    refine wpQuiet_nil ?_
    refine wpE_tail rfl (by kernel_rfl) ?_
    simp only [opsAt_nil, opsAt_cons, consOpt_some, List.getElem?_toArray, List.getElem?_cons_zero, List.getElem?_cons_succ]
    go_wp2
    refine onlyNormal_mk ?_
    replace HB := Lib.hid (HB.out.trans (hb11.mono hs))
    go_wp2
    refine bodyPost_ret (v := .tuple #[.int .i64 u, .slice A5 n5 c5, .int .i64 0]) (by simp [results, Tryz.results20, go_sem]) rfl ?_
    exact ⟨⟨_, _, _, rfl⟩, HB.out⟩
end Go.Proofs.YtnnnpijepdjanaaGreat
