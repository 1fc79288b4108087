/- Labels copied; a way of a step. -/
import Derived.Test.YtnnnpijepdjanaaGreatB3
import Derived.Test.YtnnnpijepdjanaaGreatB0
namespace Go.Proofs.YtnnnpijepdjanaaGreat
open Go.RowKit

/-- an own slice -/
def RowPost (w : World) (vs : List Value) (n : Nat) (e : Ending) (w' : World) : Prop := ∃ g c, e = .returned (.slice (some ⟨g, 0, none⟩) n c) ∧ w'.ownsRow w.heap.size 74 1 (.slice (some ⟨g, 0, none⟩) n c) n vs ∧ Below w.heap.size w w'
theorem run_eql_lab (b off n c : Nat) (W : World) : Sem.run Tryz.prog (binOp BinOp.eql 73 (.slice (some ⟨b, off, none⟩) n c) (.slice none 0 0)) W = .ok (.bool false) W := by kernel_rfl
set_option maxRecDepth 100000 in
theorem CloneL_any (w : World) (B : Nat) (A : Option Addr) (n c : Nat) (vs : List Value) (hv : vs.length = n) (h1 : 1 ≤ n) (hn : n ≤ 1000) (h : Rd w B A vs) (hB : B ≤ w.heap.size) (ho : ∀ u ∈ vs, u.oneCell' = true) :
    Calls Tryz.prog 76 #[.slice A n c] w (RowPost w vs n) := by
  obtain ⟨i1, hi1, hy0, hy1, hy2⟩ := info_parts info74
  have HV := Lib.hid hv
  have hlt : 0 < vs.length := by omega
  obtain ⟨b, off, rfl, _, hq⟩ := h.at_ (k := 0) (List.getElem?_eq_getElem hlt)
  clear hq
  have qn := run_eql_lab b off n c
  have h' := h.below (((Below.refl _ _).alloc (Nat.le_refl _) (.cells #[] 74) : Below w.heap.size w (w.alloc (.cells #[] 74))).mono hB)
  have hb0 : Below w.heap.size w (w.alloc (.cells #[] 74)) := (Below.refl _ _).alloc (Nat.le_refl _) _
  clear hv hlt h
  go_enter Tryz.func76, Tryz.ntmps76
  go_wp2_with (at_builtin; refine stp ?_)
  unfold Stp
  refine wpList_append_copy _ rfl _ _ 73 rfl w.heap.size 74 i1 _ 1 8 Tryz.underlying73 hi1 hy0 hy1 hy2 rfl (by omega) w.heap.size rfl (by rw [heapq_alloc, if_pos rfl]) (Nat.le_refl _) B (some ⟨b, off, none⟩) n c vs rfl (by rw [HV.out, Nat.mul_one]) h' ho (by simp only [maxLen]; omega) (by omega) (by simp) ?_
  intro g cap w1 hown hgrow _
  have hb1 : Below w.heap.size w w1 := hb0.grown hgrow (by simp) (fun k hk => by rw [← Option.some.inj hk]; exact Nat.le_refl _)
  have HR := Lib.hid hown
  have HB := Lib.hid hb1
  clear hown hgrow hb0 hb1 h' qn
  go_wp2
  go_ret
  exact ⟨_, _, rfl, HR.out, HB.out⟩

theorem res6 {W : World} {r t : Nat} {a0 a1 a2 a3 a4 a5 : Value} (h : W.heap[r]? = some (.cells #[a0, a1, a2, a3, a4, a5] t (0, 0))) :
    W.cell? ⟨r, 0, none⟩ = some a0 ∧ W.cell? ⟨r, 1, none⟩ = some a1 ∧ W.cell? ⟨r, 2, none⟩ = some a2 ∧ W.cell? ⟨r, 3, none⟩ = some a3 ∧ W.cell? ⟨r, 4, none⟩ = some a4 ∧ W.cell? ⟨r, 5, none⟩ = some a5 := by
  refine ⟨?_, ?_, ?_, ?_, ?_, ?_⟩ <;> rw [cell_of_row _ _ _ _ _ _ h] <;> rfl
/-- the worlds in which what the region reads lies -/
structure WayC (w : World) (x z : Nat) (i : Int) (b : Bool) (y1 y2 y4 : Int) where
  v : World
  hb : Below w.heap.size w v
  e0 : v.cell? ⟨x, 0, none⟩ = some (.int .i64 i)
  e1 : v.cell? ⟨x, 1, none⟩ = some (.bool b)
  f1 : v.cell? ⟨z, 1, none⟩ = some (.int .i64 y1)
  f2 : v.cell? ⟨z, 2, none⟩ = some (.int .i64 y2)
  f4 : v.cell? ⟨z, 4, none⟩ = some (.int .i64 y4)
theorem put5_cell {W : World} {y : Nat} (a0 a1 a2 a3 a4 : Value) {p : Addr} {v : Value} (hp : p.block ≠ y) (h : W.cell? p = some v) :
    (((((W.setCell ⟨y, 0, none⟩ a0).setCell ⟨y, 1, none⟩ a1).setCell ⟨y, 2, none⟩ a2).setCell ⟨y, 3, none⟩ a3).setCell ⟨y, 4, none⟩ a4).cell? p = some v := by
  have go : ∀ (V : World) (j : Nat) (a : Value), V.cell? p = some v → (V.setCell ⟨y, j, none⟩ a).cell? p = some v := fun V j a hV => by
    rw [World.cell?_setCell_other _ _ _ _ (fun e => hp (by rw [← e]))]
    exact hV
  exact go _ _ _ (go _ _ _ (go _ _ _ (go _ _ _ (go _ _ _ h))))
/-- the way of a step, and whether there is one -/
def wayV (i : Int) (b : Bool) (w : Wy) : Value := .agg #[.int .i64 i, .bool b, .int .i64 w.1, .int .i64 w.2.1, .int .i64 w.2.2]
def WayPost (w : World) (i : Int) (b : Bool) (q : Wy) (ok : Bool) (e : Ending) (w' : World) : Prop := e = .returned (.tuple #[wayV i b q, .bool ok]) ∧ Below w.heap.size w w'
def stepW (a : Act) (b : Bool) : Wy := if b = true then backW a else fwdW a
def stepB (a : Act) (b : Bool) : Bool := !b || a.most != -1
set_option maxRecDepth 100000 in
set_option maxHeartbeats 4000000 in
theorem way_any (w : World) (B : Nat) (Ae Aa : Option Addr) (ne ce na ca : Nat) (evs : List ByteArray) (acts : List Act) (h : NetAt w B Ae Aa ne ce na evs acts) (hB : B ≤ w.heap.size) (i : Nat) (a : Act) (b : Bool) (hi : acts[i]? = some a) (hR : actR ne a) :
    Calls Tryz.prog 102 #[.agg #[.slice Ae ne ce, .slice Aa na ca], .agg #[.int .i64 i, .bool b]] w (WayPost w i b (stepW a b) (stepB a b)) := by
  have HS : Hid (wayV i b (stepW a b) = .agg #[.int .i64 i, .bool b, .int .i64 (if b = true then a.dst else a.src), .int .i64 (if b = true then a.src else a.dst), .int .i64 (if b = true then -a.most else a.least)]) := by
    obtain ⟨_, ⟨r1, _⟩, ⟨r2, _⟩, _⟩ := hR
    rw [Hid, wayV, stepW]
    cases b <;> simp [backW, fwdW] <;> omega
  have HO : Hid (stepB a b = (!b || a.most != -1)) := rfl
  have hna : i < na := by
    rw [← h.la]
    exact (List.getElem?_eq_some_iff.1 hi).1
  have k0 : (((w.alloc (.cells #[.slice Ae ne ce, .slice Aa na ca] 66)).alloc (.cells #[.int .i64 i, .bool b] 79)).alloc (.cells #[.int .i64 0, .bool false, .int .i64 0, .int .i64 0, .int .i64 0] 81)).heap[w.heap.size]? = some (.cells #[.slice Ae ne ce, .slice Aa na ca] 66 (0, 0)) := by
    rw [heapq_alloc, if_neg (by simp; omega), heapq_alloc, if_neg (by simp), heapq_alloc, if_pos rfl]
  have k1 : (((w.alloc (.cells #[.slice Ae ne ce, .slice Aa na ca] 66)).alloc (.cells #[.int .i64 i, .bool b] 79)).alloc (.cells #[.int .i64 0, .bool false, .int .i64 0, .int .i64 0, .int .i64 0] 81)).heap[w.heap.size + 1]? = some (.cells #[.int .i64 i, .bool b] 79 (0, 0)) := by
    rw [heapq_alloc, if_neg (by simp), heapq_alloc, if_pos (by simp)]
  have k2 : (((w.alloc (.cells #[.slice Ae ne ce, .slice Aa na ca] 66)).alloc (.cells #[.int .i64 i, .bool b] 79)).alloc (.cells #[.int .i64 0, .bool false, .int .i64 0, .int .i64 0, .int .i64 0] 81)).heap[w.heap.size + 1 + 1]? = some (.cells #[.int .i64 0, .bool false, .int .i64 0, .int .i64 0, .int .i64 0] 81 (0, 0)) := by
    rw [heapq_alloc, if_pos (by simp)]
  have hb0 : Below w.heap.size w (((w.alloc (.cells #[.slice Ae ne ce, .slice Aa na ca] 66)).alloc (.cells #[.int .i64 i, .bool b] 79)).alloc (.cells #[.int .i64 0, .bool false, .int .i64 0, .int .i64 0, .int .i64 0] 81)) := (((Below.refl _ _).alloc (Nat.le_refl _) _).alloc (by simp) _).alloc (by simp; omega) _
  have hN := h.below (hb0.mono hB)
  have hs := hb0.size
  have hsy : w.heap.size ≤ w.heap.size + 1 + 1 := by omega
  have HB := Lib.hid hb0
  obtain ⟨bb, off, hAa, _, c0, c1, c2, c3, c4, c5⟩ := hN.ra.act hi
  obtain ⟨y0, y1, y2, y3, y4, y5⟩ := a
  obtain ⟨_, _, _, _, ⟨r5, r6⟩, r7, _⟩ := hR
  simp only at c0 c1 c2 c3 c4 c5 HS HO r5 r6 r7
  have HAA := Lib.hid hAa
  clear hAa
  unfold WayPost
  rw [HS.out, HO.out]
  clear hb0 h hN HS HO hi
  go_enter Tryz.func102, Tryz.ntmps102
  go_upto_region 1 with (fail)
  generalize (((w.alloc (.cells #[.slice Ae ne ce, .slice Aa na ca] 66)).alloc (.cells #[.int .i64 i, .bool b] 79)).alloc (.cells #[.int .i64 0, .bool false, .int .i64 0, .int .i64 0, .int .i64 0] 81)) = w0 at *
  obtain rfl := HAA.out
  obtain ⟨d0, d1⟩ := cells2 k0
  obtain ⟨e0, e1⟩ := cells2 k1
  have hbn : Below w0.heap.size w0 (w0.alloc (.cells #[.int .i64 y0, .int .i64 y1, .int .i64 y2, .int .i64 y3, .int .i64 y4, .int .i64 y5] 43)) := (Below.refl _ _).alloc (Nat.le_refl _) _
  have k3 : (w0.alloc (.cells #[.int .i64 y0, .int .i64 y1, .int .i64 y2, .int .i64 y3, .int .i64 y4, .int .i64 y5] 43)).heap[w0.heap.size]? = some (.cells #[.int .i64 y0, .int .i64 y1, .int .i64 y2, .int .i64 y3, .int .i64 y4, .int .i64 y5] 43 (0, 0)) := by rw [heapq_alloc, if_pos rfl]
  go_upto_region 2 with (fail)
  replace e0 := kept hbn e0
  replace e1 := kept hbn e1
  have k2o := k2
  replace k2 := blk hbn k2
  replace HB := Lib.hid (HB.out.trans (hbn.mono hs))
  have hsw := Nat.le_trans hs hbn.size
  have hzn : w0.heap.size ≠ w.heap.size + 1 + 1 := by
    have := (Array.getElem?_eq_some_iff.1 k2o).1
    omega
  generalize w0.alloc (.cells #[.int .i64 y0, .int .i64 y1, .int .i64 y2, .int .i64 y3, .int .i64 y4, .int .i64 y5] 43) = w1 at *
  generalize w0.heap.size = z at *
  obtain ⟨f0, f1, f2, f3, f4, f5⟩ := res6 k3
  clear hbn k0 k1 k2o c0 c1 c2 c3 c4 c5 d0 d1
  cases b with
  | false =>
    obtain ⟨t0, t1, t2, t3, t4, q0, q1, q2, q3, q4⟩ := res5 k2
    go_wp2
    refine bodyPost_ret (v := .tuple #[.agg #[.int .i64 i, .bool false, .int .i64 y1, .int .i64 y2, .int .i64 y3], .bool true]) (by simp [results, Tryz.results102, go_sem, t0, t1, t2, t3, t4]) rfl ⟨rfl, ?_⟩
    exact HB.out.trans (put5_below _ _ _ _ _ (by omega))
  | true =>
    go_upto_region 3 with (fail)
    have hzx : z ≠ w.heap.size + 1 + 1 := hzn
    haveI : Nonempty (WayC w (w.heap.size + 1) z i true y1 y2 y4) := ⟨⟨w1, HB.out, e0, e1, f1, f2, f4⟩⟩
    have x0 := fun y : WayC w (w.heap.size + 1) z i true y1 y2 y4 => y.e0
    have x1 := fun y : WayC w (w.heap.size + 1) z i true y1 y2 y4 => y.e1
    have x2 := fun y : WayC w (w.heap.size + 1) z i true y1 y2 y4 => y.f1
    have x3 := fun y : WayC w (w.heap.size + 1) z i true y1 y2 y4 => y.f2
    have x4 := fun y : WayC w (w.heap.size + 1) z i true y1 y2 y4 => y.f4
    obtain ⟨bo, hbo⟩ : ∃ b, (y4 != -1) = b := ⟨_, rfl⟩
    have HBO := Lib.hid hbo
    refine wp_region_eager [13] (fun w' => ∃ x : WayC w (w.heap.size + 1) z i true y1 y2 y4, w' = x.v) (by kernel_rfl) ⟨⟨w1.drew, HB.out.drew, e0, e1, f1, f2, f4⟩, rfl⟩ ?_
    refine wpE_reads5 [0, 1, 2, 3, 4, 5, 6, 7, 8, 9, 10, 11] 2 rfl (by kernel_rfl) ?_
    simp only [opsAt_nil, opsAt_cons, consOpt_some, List.getElem?_toArray, List.getElem?_cons_zero, List.getElem?_cons_succ]
    repeat (go_big_quiet_step (fail))
    refine wpQuiet_nil ?_
    have hbd : Below w1.heap.size w1 w1.drew := (Below.refl _ _).drew
    show wpE _ _ _ _ _ _ _ _ _ w1.drew
    generalize w1.drew = wd at *
    replace k2 := blk hbd k2
    obtain ⟨t0, t1, t2, t3, t4, q0, q1, q2, q3, q4⟩ := res5 k2
    refine wpE_one (i := 12) rfl (by kernel_rfl) rfl ?_
    unfold wpMid
    simp only [opsAt_nil, opsAt_cons, consOpt_some, List.getElem?_toArray, List.getElem?_cons_zero, List.getElem?_cons_succ]
    go_wp2
    replace e0 := kept hbd e0
    replace e1 := kept hbd e1
    replace f1 := kept hbd f1
    replace f2 := kept hbd f2
    replace f4 := kept hbd f4
    have HBF := Lib.hid ((HB.out.trans (hbd.mono hsw)).trans (put5_below (W := wd) (.int .i64 (i : Int)) (.bool true) (.int .i64 y2) (.int .i64 y1) (.int .i64 (-y4)) hsy))
    refine onlyNormal_mk ⟨⟨⟨_, HBF.out, put5_cell _ _ _ _ _ (by simp) e0, put5_cell _ _ _ _ _ (by simp) e1, put5_cell _ _ _ _ _ hzx f1, put5_cell _ _ _ _ _ hzx f2, put5_cell _ _ _ _ _ hzx f4⟩, rfl⟩, ?_⟩
    refine wpE_tail rfl (by kernel_rfl) ?_
    simp only [opsAt_nil, opsAt_cons, consOpt_some, List.getElem?_toArray, List.getElem?_cons_zero, List.getElem?_cons_succ]
    go_wp2
    refine onlyNormal_mk ?_
    go_wp2
    refine bodyPost_ret (v := .tuple #[.agg #[.int .i64 i, .bool true, .int .i64 y2, .int .i64 y1, .int .i64 (-y4)], .bool bo]) (by simp [results, Tryz.results102, go_sem, t0, t1, t2, t3, t4]) rfl ⟨by rw [← HBO.out], ?_⟩
    exact HBF.out
end Go.Proofs.YtnnnpijepdjanaaGreat
