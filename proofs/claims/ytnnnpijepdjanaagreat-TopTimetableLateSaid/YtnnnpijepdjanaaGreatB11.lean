/- No cycle: the code finds none. The steps of a label. -/
import Derived.Test.YtnnnpijepdjanaaGreatB10
import Derived.Deep.OwnRows
namespace Go.Proofs.YtnnnpijepdjanaaGreat
open Go.RowKit

theorem zeros_map (n : Nat) : (List.replicate n (0 : Int)).map some = zerosF n := by
  rw [zerosF, List.map_replicate]
theorem zeros_bound (n : Nat) : ∀ i u, farAt (zerosF n) i = some u → -10000000 ≤ u ∧ u ≤ 10000000 := by
  intro i u h
  have hi := farAt_lt h
  rw [farAt_zeros (by simpa [zerosF] using hi)] at h
  cases h
  omega
theorem rd_made {w : World} {g n : Nat} {z : Value} {t : TypeId} (h : w.heap[g]? = some (.cells (madeCells #[z] n) t (0, 0))) : Rd w w.heap.size (some ⟨g, 0, none⟩) (List.replicate n z) := by
  rw [← toList_madeCells_one]
  exact Rd_of_block h
set_option maxRecDepth 100000 in
set_option maxHeartbeats 8000000 in
theorem cycle_none (w : World) (B : Nat) (Ae Aa : Option Addr) (ne ce na ca : Nat) (evs : List ByteArray) (acts : List Act) (h : NetAt w B Ae Aa ne ce na evs acts) (hB : B ≤ w.heap.size) (hR : NetR evs acts) (hc : (longM (waysM acts) ne (zerosF ne)).2 = false) :
    Calls Tryz.prog 37 #[.agg #[.slice Ae ne ce, .slice Aa na ca]] w fun e w' => e = .returned (.slice none 0 0) ∧ Below w.heap.size w w' := by
  have hne1 : 1 ≤ ne := by rw [← h.le]; exact hR.e1
  have hne2 : ne ≤ 16 := by rw [← h.le]; exact hR.e2
  have hna1 : na ≤ 30 := by rw [← h.la]; exact hR.a1
  have hac : ∀ a ∈ acts, actR ne a := by rw [← h.le]; exact hR.ac
  have hmk := run_make_row' (P := Tryz.prog) 26 3 (.int .i64 0) 8 Tryz.underlying26 info3 rfl .i64 .i64 ne (by omega) (by omega)
  have hb0 : Below w.heap.size w (w.alloc (.cells #[.slice Ae ne ce, .slice Aa na ca] 66)) := (Below.refl _ _).alloc (Nat.le_refl _) _
  have k0 : (w.alloc (.cells #[.slice Ae ne ce, .slice Aa na ca] 66)).heap[w.heap.size]? = some (.cells #[.slice Ae ne ce, .slice Aa na ca] 66 (0, 0)) := by rw [heapq_alloc, if_pos rfl]
  have hN := h.below (hb0.mono hB)
  have hB0 := Nat.le_trans hB hb0.size
  have hs := hb0.size
  have HB := Lib.hid hb0
  obtain ⟨d0, d1⟩ := cells2 k0
  have HC := Lib.hid hc
  clear hb0 k0 h hc hR
  go_enter Tryz.func37, Tryz.ntmps37
  go_upto_region 1 with (fail)
  generalize (w.alloc (.cells #[.slice Ae ne ce, .slice Aa na ca] 66)) = w0 at *
  have x0 := fun x : Xt w0 => x.cell d0
  have x1 := fun x : Xt w0 => x.cell d1
  refine wp_region_eager [12] (fun w' => ∃ x : Xt w0, w' = x.1) (by kernel_rfl) ⟨⟨w0.drew, (Below.refl _ _).drew⟩, rfl⟩ ?_
  refine wpE_reads3 [0, 1, 2, 3, 4] 8 rfl (by kernel_rfl) ?_
  simp only [opsAt_nil, opsAt_cons, consOpt_some, List.getElem?_toArray, List.getElem?_cons_zero, List.getElem?_cons_succ]
  repeat (go_big_quiet_step (fail))
  refine wpQuiet_nil ?_
  have hbd : Below w0.heap.size w0 w0.drew := (Below.refl _ _).drew
  show wpE _ _ _ _ _ _ _ _ _ w0.drew
  generalize w0.drew = wd at *
  refine wpE_one (i := 5) rfl (by kernel_rfl) rfl ?_
  unfold wpMid
  simp only [opsAt_nil, opsAt_cons, consOpt_some, List.getElem?_toArray, List.getElem?_cons_zero, List.getElem?_cons_succ]
  go_wp2
  have hb1 := hbd.alloc hbd.size (.cells (madeCells #[.int .i64 0] ne) 3)
  have hz1 : Rd (wd.alloc (.cells (madeCells #[.int .i64 0] ne) 3)) (wd.alloc (.cells (madeCells #[.int .i64 0] ne) 3)).heap.size (some ⟨wd.heap.size, 0, none⟩) (intCells (List.replicate ne 0)) := by
    have := rd_made (w := wd.alloc (.cells (madeCells #[.int .i64 0] ne) 3)) (g := wd.heap.size) (n := ne) (z := .int .i64 0) (t := 3) (by rw [heapq_alloc, if_pos rfl])
    rw [intCells, List.map_replicate]
    exact this
  generalize wd.alloc (.cells (madeCells #[.int .i64 0] ne) 3) = w1 at *
  generalize wd.heap.size = g1 at *
  refine onlyNormal_mk ⟨⟨⟨_, hb1⟩, rfl⟩, ?_⟩
  have ST := starts_any w1 w1.heap.size (some ⟨g1, 0, none⟩) ne ne (List.replicate ne 0) (by simp) (by omega) hz1 (Nat.le_refl _)
  rw [zeros_map] at ST
  refine wpE_one (i := 6) rfl (by kernel_rfl) rfl ?_
  unfold wpMid
  simp only [opsAt_nil, opsAt_cons, consOpt_some, List.getElem?_toArray, List.getElem?_cons_zero, List.getElem?_cons_succ]
  go_wp2_with (go_at_call 31; refine ST.mono ?_; rintro e w2 ⟨A2, c2, vs, rfl, hrd2, hlab2, hb12⟩)
  have hb2 := hb1.trans (hb12.mono hb1.size)
  refine onlyNormal_mk ⟨⟨⟨_, hb2⟩, rfl⟩, ?_⟩
  have LG := longest_any w2 B Ae Aa ne ce na ca evs acts (hN.below (hb2.mono hB0)) (Nat.le_trans hB0 hb2.size) (by omega) hac A2 c2 0 vs (zerosF ne) (by simp [zerosF]) hne1 hne2 hlab2 hrd2 (zeros_bound ne)
  refine wpE_one (i := 7) rfl (by kernel_rfl) rfl ?_
  unfold wpMid
  simp only [opsAt_nil, opsAt_cons, consOpt_some, List.getElem?_toArray, List.getElem?_cons_zero, List.getElem?_cons_succ]
  go_wp2_with (go_at_call 30; refine LG.mono ?_; rintro e w3 ⟨A3, c3, vs3, p, rfl, _, _, hp, _, hb23⟩; obtain rfl := hp HC.out)
  have hb3 := hb2.trans (hb23.mono hb2.size)
  refine onlyNormal_mk ⟨⟨⟨_, hb3⟩, rfl⟩, ?_⟩
  refine wpE_reads [8, 9, 10, 11] 1 rfl (by kernel_rfl) ?_
  simp only [opsAt_nil, opsAt_cons, consOpt_some, List.getElem?_toArray, List.getElem?_cons_zero, List.getElem?_cons_succ]
  repeat (go_big_quiet_step (fail))
  refine wpQuiet_nil ?_
  refine wpE_tail rfl (by kernel_rfl) ?_
  simp only [opsAt_nil, opsAt_cons, consOpt_some, List.getElem?_toArray, List.getElem?_cons_zero, List.getElem?_cons_succ]
  go_wp2
  refine onlyNormal_mk ?_
  have HB9 := Lib.hid (HB.out.trans (hb3.mono hs))
  clear hb3 hb2 hb1 hb12 hb23 hbd LG ST hmk x0 x1 d0 d1 hrd2 hlab2 hz1 hN
  go_wp2
  go_ret
  exact ⟨rfl, HB9.out⟩
end Go.Proofs.YtnnnpijepdjanaaGreat
