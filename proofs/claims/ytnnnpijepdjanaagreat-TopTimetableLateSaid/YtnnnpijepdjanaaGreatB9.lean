/- One round of the labels: the walk. -/
import Derived.Test.YtnnnpijepdjanaaGreatB8
namespace Go.Proofs.YtnnnpijepdjanaaGreat
open Go Go.RowKit Go.Shelf
attribute [local go_sem] Oper.semAt_some

theorem Lab.cell {w : World} {p : Value} {u : Int} {n : Nat} (h : Lab w p u n) : ∃ g, p = .pointer (some ⟨g, 0, none⟩) ∧ ∃ cur : Array Value, w.heap[g]? = some (.cells cur 83 (0, 0)) ∧ cur[0]? = some (.int .i64 u) := by
  cases h with
  | root h => exact ⟨_, rfl, _, h, rfl⟩
  | step h _ => exact ⟨_, rfl, _, h, rfl⟩
def keepT_below {W V : World} (hb : Below W.heap.size W V) : KeepT W := ⟨V, fun _ _ _ _ _ h => blk hb h⟩
def keepT_set {W V : World} {g : Nat} {cg : Array Value} (hb : Below W.heap.size W V) (hg : V.heap[g]? = some (.cells cg 74 (0, 0))) (i : Nat) (u : Value) : KeepT W := ⟨V.setCell ⟨g, i, none⟩ u, fun b cur t h80 _ h => by
  rw [heapq_set, if_neg (fun e => by
    subst e
    have h9 := blk hb h
    rw [hg] at h9
    cases h9
    exact h80 rfl)]
  exact blk hb h⟩
theorem kpW_set2 {B g i y : Nat} {W : World} {v1 v2 : Value} {cg cy : Array Value} (hg : W.heap[g]? = some (.cells cg 74 (0, 0))) (hy : W.heap[y]? = some (.cells cy 4 (0, 0))) (h1 : B ≤ g) (h2 : B ≤ y) : KpW B W ((W.setCell ⟨g, i, none⟩ v1).setCell ⟨y, 0, none⟩ v2) := by
  refine ⟨((Below.refl B W).setCell (p := ⟨g, i, none⟩) h1 _).setCell (p := ⟨y, 0, none⟩) h2 _, fun b cur hb => ?_⟩
  rw [heapq_set, if_neg (fun e => by subst e; rw [hy] at hb; simp at hb), heapq_set, if_neg (fun e => by subst e; rw [hg] at hb; simp at hb)]
  exact hb
def FartherPost (w : World) (d : Nat) (vs : List Value) (ne : Nat) (l acc : Far) (more : Bool) (e : Ending) (w' : World) : Prop :=
  ∃ A c vsN, e = .returned (.tuple #[.slice A ne c, .bool more]) ∧ Rd w' w'.heap.size A vsN ∧ LabsAt w' (d + 1) vsN acc ∧ PDiff w.heap.size vs vsN l acc ∧ Below w.heap.size w w'
set_option maxRecDepth 100000 in
set_option maxHeartbeats 8000000 in
theorem farther_any (w : World) (B : Nat) (Ae Aa : Option Addr) (ne ce na ca : Nat) (evs : List ByteArray) (acts : List Act) (h : NetAt w B Ae Aa ne ce na evs acts) (hB : B ≤ w.heap.size) (hna : na ≤ 1000) (hR : ∀ a ∈ acts, actR ne a)
    (Al : Option Addr) (cl d : Nat) (vs : List Value) (l : Far) (hl : l.length = ne) (h1 : 1 ≤ ne) (h16 : ne ≤ 16) (hv : LabsAt w d vs l) (hrd : Rd w w.heap.size Al vs) (hbd : ∀ i u, farAt l i = some u → -100000000 ≤ u ∧ u ≤ 100000000) :
    Calls Tryz.prog 54 #[.agg #[.slice Ae ne ce, .slice Aa na ca], .slice Al ne cl] w (FartherPost w d vs ne l (farM (waysM acts) l) (moreGo l l (waysM acts))) := by
  have hb0 : Below w.heap.size w ((w.alloc (.cells #[.slice Ae ne ce, .slice Aa na ca] 66)).alloc (.cells #[.slice Al ne cl] 73)) := ((Below.refl _ _).alloc (Nat.le_refl _) _).alloc (by simp) _
  have k0 : ((w.alloc (.cells #[.slice Ae ne ce, .slice Aa na ca] 66)).alloc (.cells #[.slice Al ne cl] 73)).heap[w.heap.size]? = some (.cells #[.slice Ae ne ce, .slice Aa na ca] 66 (0, 0)) := by
    rw [heapq_alloc, if_neg (by simp), heapq_alloc, if_pos rfl]
  have k1 : ((w.alloc (.cells #[.slice Ae ne ce, .slice Aa na ca] 66)).alloc (.cells #[.slice Al ne cl] 73)).heap[w.heap.size + 1]? = some (.cells #[.slice Al ne cl] 73 (0, 0)) := by
    rw [heapq_alloc, if_pos (by simp)]
  have hs0 : ((w.alloc (.cells #[.slice Ae ne ce, .slice Aa na ca] 66)).alloc (.cells #[.slice Al ne cl] 73)).heap.size = w.heap.size + 2 := by simp
  have hvl : vs.length = ne := hv.1.trans hl
  have CL := CloneL_any ((w.alloc (.cells #[.slice Ae ne ce, .slice Aa na ca] 66)).alloc (.cells #[.slice Al ne cl] 73)) w.heap.size Al ne cl vs hvl h1 (by omega) (hrd.below hb0) hb0.size (lab_one hv)
  have c0 : ((w.alloc (.cells #[.slice Ae ne ce, .slice Aa na ca] 66)).alloc (.cells #[.slice Al ne cl] 73)).cell? ⟨w.heap.size + 1, 0, none⟩ = some (.slice Al ne cl) := (cell_of_row _ _ 0 _ _ _ k1).trans rfl
  refine (callsIn_wide (n := 3)).1 ?_
  refine callsIn_of_wp_marks Tryz.func54 rfl trivial ?_ rfl
  simp only [Tryz.ntmps54, List.size_toArray, List.length_cons, List.length_nil, Nat.reduceAdd, Nat.reduceSub, Array.replicate_succ, Array.replicate_zero, List.push_toArray, List.append_toArray, List.nil_append, List.cons_append]
  gi_wp2_with (refine ⟨trivial, ?_⟩; gi_at_call 76; refine (callsIn_wide.2 CL).mono ?_; rintro e w2 ⟨g, c, rfl, hown, hb2⟩; have hz : Below w2.heap.size w2 ((w2.alloc (.cells #[.slice (some ⟨g, 0, none⟩) ne c] 73)).alloc (.cells #[.bool false] 4)) := ((Below.refl _ _).alloc (Nat.le_refl _) _).alloc (by simp) _; have hb3 := hb2.trans (hz.mono hb2.size); have d0 := kept hb3 (cells2 k0).1; have d1 := kept hb3 (cells2 k0).2)
  have kb6 : ((w2.alloc (.cells #[.slice (some ⟨g, 0, none⟩) ne c] 73)).alloc (.cells #[.bool false] 4)).heap[w2.heap.size]? = some (.cells #[.slice (some ⟨g, 0, none⟩) ne c] 73 (0, 0)) := by rw [heapq_alloc, if_neg (by simp), heapq_alloc, if_pos rfl]
  have kb7 : ((w2.alloc (.cells #[.slice (some ⟨g, 0, none⟩) ne c] 73)).alloc (.cells #[.bool false] 4)).heap[w2.heap.size + 1]? = some (.cells #[.bool false] 4 (0, 0)) := by rw [heapq_alloc, if_pos (by simp)]
  have hbW := hb0.trans (hb3.mono hb0.size)
  have k1' := blk hb3 k1
  have hy : w.heap.size + 2 ≤ w2.heap.size := by have := hb2.size; omega
  rw [hs0] at hown
  have hown3 := ownsRow_below hown hz
  have hN := h.below (hbW.mono hB)
  have hws : WaysIn ne (waysM acts) := ways_in hR
  have hwl := ways_len hR
  have HV := Lib.hid hv
  have HRD := Lib.hid hrd
  clear hown hz hb3 hb2 hb0 k0 k1 hv h hrd d0 d1 c0 CL
  generalize ((w2.alloc (.cells #[.slice (some ⟨g, 0, none⟩) ne c] 73)).alloc (.cells #[.bool false] 4)) = w3 at *
  generalize w2.heap.size = y at *
  generalize hx : w.heap.size = x at *
  have HX := Lib.hid hx
  clear hx hs0
  have hBs : B ≤ w3.heap.size := by have := hbW.size; have := HX.out; omega
  have h0 : FaI w (d + 1) x y g c ne Al cl vs l (relaxGo l l ((waysM acts).take 0)) (moreGo l l ((waysM acts).take 0)) w3 :=
    ⟨kb6, kb7, k1', ⟨vs, hown3, HV.out.kp (fun b cur hb => (hbW.block b (by have := (Array.getElem?_eq_some_iff.1 hb).1; have := HX.out; omega)).trans hb) |>.mono (Nat.le_succ d), fun i v hv => .inl ⟨hv, rfl⟩⟩, hbW, HX.out, hy⟩
  refine wpIn_range_all (F := Fence.wide) rfl (by omega) (gf := 77) (fb := #[.agg #[.slice Ae ne ce, .slice Aa na ca]]) rfl trivial (enters_of Tryz.func77 (by kernel_rfl) rfl)
    (ways_gives (3 - 1) (by omega) w3 B Ae Aa ne ce na ca evs acts hN hBs hna hR) (Below.refl _ _) (fun _ => rfl) kpW_t
    (fun W q o o' hq ho hc => ⟨(Below.refl B W).grown (grownBy_putObj' W q o') (by have := (Array.getElem?_eq_some_iff.1 ho).1; omega) (fun k e => by cases e; omega), fun b cur hb => put_cells ho hc hb⟩)
    (fun k W => FaI w (d + 1) x y g c ne Al cl vs l (relaxGo l l ((waysM acts).take k)) (moreGo l l ((waysM acts).take k)) W)
    (fun k W W' row hs hg hr => hs.grown hg (fun r e => ⟨by have := (hr r e).1; have := hbW.size; have := HX.out; omega, (hr r e).2⟩))
    h0 ?round ?done
  case round =>
    rintro q k ⟨si, sb, q1, q2, q3⟩ W hq hx hI
    have hxw : (waysM acts)[k]? = some (q1, q2, q3) := by
      rw [← steps_ways, List.getElem?_map, hx]
      rfl
    obtain ⟨hq1, hq2⟩ := hws _ (List.mem_of_getElem? hxw)
    obtain ⟨hq3, hq4⟩ := hwl _ (List.mem_of_getElem? hxw)
    simp only at hq1 hq2 hq3 hq4
    simp only [stEnc, wayV]
    gi_wp2
    have hba : Below W.heap.size W (W.alloc (.cells #[.int .i64 (si : Int), .bool sb, .int .i64 (q1 : Int), .int .i64 (q2 : Int), .int .i64 q3] 81)) := (Below.refl _ _).alloc (Nat.le_refl _) _
    have kt : (W.alloc (.cells #[.int .i64 (si : Int), .bool sb, .int .i64 (q1 : Int), .int .i64 (q2 : Int), .int .i64 q3] 81)).heap[W.heap.size]? = some (.cells #[.int .i64 (si : Int), .bool sb, .int .i64 (q1 : Int), .int .i64 (q2 : Int), .int .i64 q3] 81 (0, 0)) := by rw [heapq_alloc, if_pos rfl]
    have hBW : B ≤ W.heap.size := by have := hI.below.size; have := HX.out; omega
    refine ⟨(KeepsOthers.alloc _ _).from _, kpW_below hBW hba, ?_⟩
    have hI1 := hI.more_below hba
    clear hI
    generalize W.alloc (.cells #[.int .i64 (si : Int), .bool sb, .int .i64 (q1 : Int), .int .i64 (q2 : Int), .int .i64 q3] 81) = W1 at *
    generalize W.heap.size = z at *
    intro o o' ho hc
    have hI2 := hI1.grown (grownBy_putObj' W1 q o') (fun r e => by cases e; exact ⟨by have := hbW.size; have := HX.out; omega, o, ho, hc⟩)
    replace kt := put_cells (o' := o') ho hc kt
    generalize W1.putObj q o' = W2 at *
    clear hI1 ho hc hba
    obtain ⟨vsN, r1, r2, r3⟩ := hI2.row
    have b6 := hI2.b6
    have b7 := hI2.b7
    have b3 := hI2.b3
    have kw : KpL w W2 := fun b cur hb => (hI2.below.block b (by have := (Array.getElem?_eq_some_iff.1 hb).1; have := HX.out; omega)).trans hb
    obtain ⟨p, hp⟩ : ∃ p, vs[q1]? = some p := ⟨_, List.getElem?_eq_getElem (by rw [hvl]; exact hq1)⟩
    obtain ⟨ba, offa, hAl, _, cp⟩ := (HRD.out.below hI2.below) q1 p hp
    obtain ⟨ol, hol⟩ : ∃ o, l[q1]? = some o := ⟨_, List.getElem?_eq_getElem (by rw [hl]; exact hq1)⟩
    have c3 := cell_of_row W2 (x + 1) 0 _ _ _ b3
    have c2 := cell_of_row W2 z 2 _ _ _ kt
    simp at c3 c2
    subst hAl
    rcases (HV.out.kp kw).2 q1 p ol hp hol with ⟨rfl, rfl⟩ | ⟨u, n, hnd, rfl, hlab⟩
    · gi_wp2_with (fail)
      refine wpIn_region_xt (by kernel_rfl) (by kernel_rfl) (by kernel_rfl) ?_
      repeat (go_big_quiet_step (fail))
      refine wpQuiet_nil ?_
      intro w5 hx5
      have hb5 := Xt.below hx5
      clear hx5
      gi_wp2
      have HG : Hid (grows l (relaxGo l l ((waysM acts).take k)) (q1, q2, q3) = false) := by
        rw [Hid, grows]
        simp only [far_get hol]
      refine ⟨KeepsFrom.of_grownBy (grown_of_below hb5) (fun r e => by cases e), kpW_below (by have := hI2.below.size; have := HX.out; omega) hb5, ?_⟩
      rw [take_snoc hxw, relaxGo_snoc, moreGo_snoc, relax_no HG.out, HG.out, Bool.or_false]
      exact hI2.more_below hb5
    · obtain ⟨p2, hp2⟩ : ∃ p, vsN[q2]? = some p := ⟨_, List.getElem?_eq_getElem (by have := r1.1; omega)⟩
      have hal : (relaxGo l l ((waysM acts).take k)).length = ne := by rw [relaxGo_len, hl]
      obtain ⟨o2, ho2⟩ : ∃ o, (relaxGo l l ((waysM acts).take k))[q2]? = some o := ⟨_, List.getElem?_eq_getElem (by rw [hal]; exact hq2)⟩
      obtain ⟨cg, fg, hg1, hg2⟩ := own_cell r1 hp2
      obtain ⟨gl, rfl, curl, hcl, hc0⟩ := hlab.cell
      have hu := hbd q1 u (far_get hol)
      have c6 := cell_of_row W2 y 0 _ _ _ b6
      have c3' := cell_of_row W2 z 3 _ _ _ kt
      have c4' := cell_of_row W2 z 4 _ _ _ kt
      have cl0 := (cell_of_row W2 gl 0 _ _ _ hcl).trans hc0
      simp at c6 c3' c4'
      have x6 := fun y : Xt W2 => y.cell c6
      have x2 := fun y : Xt W2 => y.cell c2
      have x3 := fun y : Xt W2 => y.cell c3'
      have x4 := fun y : Xt W2 => y.cell c4'
      have xg := fun y : Xt W2 => y.cell cg
      have xl := fun y : Xt W2 => y.cell cl0
      rcases r2.2 q2 p2 o2 hp2 ho2 with ⟨rfl, rfl⟩ | ⟨v, n2, _, rfl, hlab2⟩
      · gi_wp2_with (fail)
        refine wpIn_region_xt (by kernel_rfl) (by kernel_rfl) (by kernel_rfl) ?_
        repeat (go_big_quiet_step (fail))
        refine wpQuiet_nil ?_
        intro w5 hx5
        have hb5 := Xt.below hx5
        clear hx5
        have HG : Hid (grows l (relaxGo l l ((waysM acts).take k)) (q1, q2, q3) = true) := by
          rw [Hid, grows]
          simp only [far_get hol, far_get ho2, beats]
        have hgt : ∀ u0 : Int, l[q2]? = some (some u0) → u0 < u + q3 := fun u0 h9 => by
          obtain ⟨v', hv', _⟩ := pre_ge (ws := waysM acts) (by rw [hl]; exact hws) k q2 u0 (far_get h9)
          rw [far_get ho2] at hv'
          cases hv'
        gi_wp2_with (fail)
        have hI5 := hI2.more_below hb5
        have kt5 := blk hb5 kt
        have kl5 := blk hb5 hcl
        have hlab5 := hlab.kp (kpL_below hb5)
        haveI : Nonempty (KeepT w5) := ⟨⟨w5, fun _ _ _ _ _ h => h⟩⟩
        have f6 := fun y' : KeepT w5 => y'.cell (by decide) (by decide) hI5.b6 (j := 0) rfl
        have f0 := fun y' : KeepT w5 => y'.cell (by decide) (by decide) kt5 (j := 0) rfl
        have f1 := fun y' : KeepT w5 => y'.cell (by decide) (by decide) kt5 (j := 1) rfl
        have f2 := fun y' : KeepT w5 => y'.cell (by decide) (by decide) kt5 (j := 2) rfl
        have f3 := fun y' : KeepT w5 => y'.cell (by decide) (by decide) kt5 (j := 3) rfl
        have f4 := fun y' : KeepT w5 => y'.cell (by decide) (by decide) kt5 (j := 4) rfl
        have fl := fun y' : KeepT w5 => y'.cell (by decide) (by decide) kl5 (j := 0) hc0
        refine wpIn_region_eager [16] (fun w' => ∃ y' : KeepT w5, w' = y'.v) (by kernel_rfl) (by kernel_rfl) ⟨keepT_below ((Below.refl w5.heap.size w5).drew), rfl⟩ ?_
        refine wpE_reads5 [0, 1, 2, 3, 4, 5, 6, 7, 8, 9, 10, 11, 12] 4 rfl (by kernel_rfl) ?_
        simp only [opsAt_nil, opsAt_cons, consOpt_some, List.getElem?_toArray, List.getElem?_cons_zero, List.getElem?_cons_succ]
        repeat (go_big_quiet_step (fail))
        refine wpQuiet_nil ?_
        have hbd5 : Below w5.heap.size w5 w5.drew := (Below.refl _ _).drew
        show wpE _ _ _ _ _ _ _ _ _ w5.drew
        generalize w5.drew = wd at *
        refine wpE_one (i := 13) rfl (by kernel_rfl) rfl ?_
        unfold wpMid
        simp only [opsAt_nil, opsAt_cons, consOpt_some, List.getElem?_toArray, List.getElem?_cons_zero, List.getElem?_cons_succ]
        go_wp2
        have hb7 : Below w5.heap.size w5 (wd.alloc (.cells #[.int .i64 (u + q3), .int .i64 (si : Int), .bool sb, .int .i64 (q1 : Int), .int .i64 (q2 : Int), .int .i64 q3, .pointer (some ⟨gl, 0, none⟩)] 83)) := hbd5.alloc hbd5.size _
        have kL : (wd.alloc (.cells #[.int .i64 (u + q3), .int .i64 (si : Int), .bool sb, .int .i64 (q1 : Int), .int .i64 (q2 : Int), .int .i64 q3, .pointer (some ⟨gl, 0, none⟩)] 83)).heap[wd.heap.size]? = some (.cells #[.int .i64 (u + q3), .int .i64 (si : Int), .bool sb, .int .i64 (q1 : Int), .int .i64 (q2 : Int), .int .i64 q3, .pointer (some ⟨gl, 0, none⟩)] 83 (0, 0)) := by rw [heapq_alloc, if_pos rfl]
        have hqx : x ≤ wd.heap.size := by have := hI5.below.size; have := hbd5.size; have := HX.out; omega
        refine onlyNormal_mk ⟨⟨keepT_below hb7, rfl⟩, ?_⟩
        have hI7 := hI5.more_below hb7
        have lab7 : Lab (wd.alloc (.cells #[.int .i64 (u + q3), .int .i64 (si : Int), .bool sb, .int .i64 (q1 : Int), .int .i64 (q2 : Int), .int .i64 q3, .pointer (some ⟨gl, 0, none⟩)] 83)) (.pointer (some ⟨wd.heap.size, 0, none⟩)) (u + q3) (n + 1) := .step kL (hlab5.kp (kpL_below hb7))
        generalize wd.alloc (.cells #[.int .i64 (u + q3), .int .i64 (si : Int), .bool sb, .int .i64 (q1 : Int), .int .i64 (q2 : Int), .int .i64 q3, .pointer (some ⟨gl, 0, none⟩)] 83) = w7 at *
        generalize wd.heap.size = q6 at *
        clear f6 f0 f1 f2 f3 f4 fl kL
        refine wpE_reads [14] 2 rfl (by kernel_rfl) ?_
        simp only [opsAt_nil, opsAt_cons, consOpt_some, List.getElem?_toArray, List.getElem?_cons_zero, List.getElem?_cons_succ]
        repeat (go_big_quiet_step (fail))
        refine wpQuiet_nil ?_
        obtain ⟨vs7, r17, _, _⟩ := hI7.row
        obtain ⟨p7, hp7⟩ : ∃ p, vs7[q2]? = some p := ⟨_, List.getElem?_eq_getElem (by have := r17.1; omega)⟩
        obtain ⟨cg7, fg7, hgx, _⟩ := own_cell r17 hp7
        obtain ⟨_, _, curg, hcurg⟩ := ownBlk r17 rfl
        have hyg : y + 1 ≠ g := fun e => by
          have h9 := hI7.b7
          rw [e] at h9
          rw [hcurg] at h9
          simp at h9
        have FS := hI7.set (i := q2) (by rw [hal]; exact hq2) hqx lab7 (by omega) hgt
        have KW := kpW_set2 (B := B) (i := q2) (v1 := .pointer (some ⟨q6, 0, none⟩)) (v2 := .bool true) hcurg hI7.b7 (by omega) (by have := hI7.hy; omega)
        have b78 : (w7.setCell ⟨g, q2, none⟩ (.pointer (some ⟨q6, 0, none⟩))).heap[y + 1]? = some (.cells #[.bool (moreGo l l ((waysM acts).take k))] 4 (0, 0)) := by
          rw [heapq_set, if_neg hyg]
          exact hI7.b7
        have KF : KeepsFrom w3.heap.size w7 (w7.setCell ⟨g, q2, none⟩ (.pointer (some ⟨q6, 0, none⟩))) := (KeepsOthers.setCell _ _ _).from _
        refine wpE_one (i := 15) rfl (by kernel_rfl) rfl ?_
        unfold wpMid
        simp only [opsAt_nil, opsAt_cons, consOpt_some, List.getElem?_toArray, List.getElem?_cons_zero, List.getElem?_cons_succ]
        go_wp2
        refine onlyNormal_mk ⟨⟨keepT_set hb7 hcurg q2 (.pointer (some ⟨q6, 0, none⟩)), rfl⟩, ?_⟩
        have c78 := cell_of_row _ (y + 1) 0 _ _ _ b78
        have q78 := frozen_of_row _ (y + 1) 0 _ _ b78
        simp at c78
        generalize w7.setCell ⟨g, q2, none⟩ (.pointer (some ⟨q6, 0, none⟩)) = w8 at *
        refine wpE_tail rfl (by kernel_rfl) ?_
        simp only [opsAt_nil, opsAt_cons, consOpt_some, List.getElem?_toArray, List.getElem?_cons_zero, List.getElem?_cons_succ]
        go_wp2
        refine onlyNormal_mk ?_
        gi_wp2
        refine ⟨?_, ?_, ?_⟩
        · exact ((KeepsFrom.of_grownBy (grown_of_below hb5) (fun r e => by cases e)).trans (KeepsFrom.of_grownBy (grown_of_below hb7) (fun r e => by cases e))).trans (KF.trans ((KeepsOthers.setCell _ _ _).from _))
        · exact kpW_t (kpW_below (by have := hI2.below.size; have := HX.out; omega) hb5) (kpW_t (kpW_below (by have := hI5.below.size; have := HX.out; omega) hb7) KW)
        · rw [take_snoc hxw, relaxGo_snoc, moreGo_snoc, relax_yes (far_get hol) HG.out, HG.out, Bool.or_true]
          exact FS
      · obtain ⟨gl2, rfl, curl2, hcl2, hc02⟩ := hlab2.cell
        have cl2 := (cell_of_row W2 gl2 0 _ _ _ hcl2).trans hc02
        have xl2 := fun y : Xt W2 => y.cell cl2
        have HG9 : Hid (grows l (relaxGo l l ((waysM acts).take k)) (q1, q2, q3) = decide (v < u + q3)) := by
          rw [Hid, grows]
          simp only [far_get hol, far_get ho2, beats]
        by_cases hlt : v < u + q3
        · have hd : decide (v < u + q3) = true := decide_eq_true hlt
          gi_wp2_with (fail)
          refine wpIn_region_xt (by kernel_rfl) (by kernel_rfl) (by kernel_rfl) ?_
          repeat (go_big_quiet_step (fail))
          refine wpQuiet_nil ?_
          intro w5 hx5
          have hb5 := Xt.below hx5
          clear hx5
          have HG : Hid (grows l (relaxGo l l ((waysM acts).take k)) (q1, q2, q3) = true) := HG9.out.trans hd
          have hgt : ∀ u0 : Int, l[q2]? = some (some u0) → u0 < u + q3 := fun u0 h9 => by
            obtain ⟨v', hv', hle⟩ := pre_ge (ws := waysM acts) (by rw [hl]; exact hws) k q2 u0 (far_get h9)
            rw [far_get ho2] at hv'
            cases hv'
            omega
          gi_wp2_with (fail)
          have hI5 := hI2.more_below hb5
          have kt5 := blk hb5 kt
          have kl5 := blk hb5 hcl
          have hlab5 := hlab.kp (kpL_below hb5)
          haveI : Nonempty (KeepT w5) := ⟨⟨w5, fun _ _ _ _ _ h => h⟩⟩
          have f6 := fun y' : KeepT w5 => y'.cell (by decide) (by decide) hI5.b6 (j := 0) rfl
          have f0 := fun y' : KeepT w5 => y'.cell (by decide) (by decide) kt5 (j := 0) rfl
          have f1 := fun y' : KeepT w5 => y'.cell (by decide) (by decide) kt5 (j := 1) rfl
          have f2 := fun y' : KeepT w5 => y'.cell (by decide) (by decide) kt5 (j := 2) rfl
          have f3 := fun y' : KeepT w5 => y'.cell (by decide) (by decide) kt5 (j := 3) rfl
          have f4 := fun y' : KeepT w5 => y'.cell (by decide) (by decide) kt5 (j := 4) rfl
          have fl := fun y' : KeepT w5 => y'.cell (by decide) (by decide) kl5 (j := 0) hc0
          refine wpIn_region_eager [16] (fun w' => ∃ y' : KeepT w5, w' = y'.v) (by kernel_rfl) (by kernel_rfl) ⟨keepT_below ((Below.refl w5.heap.size w5).drew), rfl⟩ ?_
          refine wpE_reads5 [0, 1, 2, 3, 4, 5, 6, 7, 8, 9, 10, 11, 12] 4 rfl (by kernel_rfl) ?_
          simp only [opsAt_nil, opsAt_cons, consOpt_some, List.getElem?_toArray, List.getElem?_cons_zero, List.getElem?_cons_succ]
          repeat (go_big_quiet_step (fail))
          refine wpQuiet_nil ?_
          have hbd5 : Below w5.heap.size w5 w5.drew := (Below.refl _ _).drew
          show wpE _ _ _ _ _ _ _ _ _ w5.drew
          generalize w5.drew = wd at *
          refine wpE_one (i := 13) rfl (by kernel_rfl) rfl ?_
          unfold wpMid
          simp only [opsAt_nil, opsAt_cons, consOpt_some, List.getElem?_toArray, List.getElem?_cons_zero, List.getElem?_cons_succ]
          go_wp2
          have hb7 : Below w5.heap.size w5 (wd.alloc (.cells #[.int .i64 (u + q3), .int .i64 (si : Int), .bool sb, .int .i64 (q1 : Int), .int .i64 (q2 : Int), .int .i64 q3, .pointer (some ⟨gl, 0, none⟩)] 83)) := hbd5.alloc hbd5.size _
          have kL : (wd.alloc (.cells #[.int .i64 (u + q3), .int .i64 (si : Int), .bool sb, .int .i64 (q1 : Int), .int .i64 (q2 : Int), .int .i64 q3, .pointer (some ⟨gl, 0, none⟩)] 83)).heap[wd.heap.size]? = some (.cells #[.int .i64 (u + q3), .int .i64 (si : Int), .bool sb, .int .i64 (q1 : Int), .int .i64 (q2 : Int), .int .i64 q3, .pointer (some ⟨gl, 0, none⟩)] 83 (0, 0)) := by rw [heapq_alloc, if_pos rfl]
          have hqx : x ≤ wd.heap.size := by have := hI5.below.size; have := hbd5.size; have := HX.out; omega
          refine onlyNormal_mk ⟨⟨keepT_below hb7, rfl⟩, ?_⟩
          have hI7 := hI5.more_below hb7
          have lab7 : Lab (wd.alloc (.cells #[.int .i64 (u + q3), .int .i64 (si : Int), .bool sb, .int .i64 (q1 : Int), .int .i64 (q2 : Int), .int .i64 q3, .pointer (some ⟨gl, 0, none⟩)] 83)) (.pointer (some ⟨wd.heap.size, 0, none⟩)) (u + q3) (n + 1) := .step kL (hlab5.kp (kpL_below hb7))
          generalize wd.alloc (.cells #[.int .i64 (u + q3), .int .i64 (si : Int), .bool sb, .int .i64 (q1 : Int), .int .i64 (q2 : Int), .int .i64 q3, .pointer (some ⟨gl, 0, none⟩)] 83) = w7 at *
          generalize wd.heap.size = q6 at *
          clear f6 f0 f1 f2 f3 f4 fl kL
          refine wpE_reads [14] 2 rfl (by kernel_rfl) ?_
          simp only [opsAt_nil, opsAt_cons, consOpt_some, List.getElem?_toArray, List.getElem?_cons_zero, List.getElem?_cons_succ]
          repeat (go_big_quiet_step (fail))
          refine wpQuiet_nil ?_
          obtain ⟨vs7, r17, _, _⟩ := hI7.row
          obtain ⟨p7, hp7⟩ : ∃ p, vs7[q2]? = some p := ⟨_, List.getElem?_eq_getElem (by have := r17.1; omega)⟩
          obtain ⟨cg7, fg7, hgx, _⟩ := own_cell r17 hp7
          obtain ⟨_, _, curg, hcurg⟩ := ownBlk r17 rfl
          have hyg : y + 1 ≠ g := fun e => by
            have h9 := hI7.b7
            rw [e] at h9
            rw [hcurg] at h9
            simp at h9
          have FS := hI7.set (i := q2) (by rw [hal]; exact hq2) hqx lab7 (by omega) hgt
          have KW := kpW_set2 (B := B) (i := q2) (v1 := .pointer (some ⟨q6, 0, none⟩)) (v2 := .bool true) hcurg hI7.b7 (by omega) (by have := hI7.hy; omega)
          have b78 : (w7.setCell ⟨g, q2, none⟩ (.pointer (some ⟨q6, 0, none⟩))).heap[y + 1]? = some (.cells #[.bool (moreGo l l ((waysM acts).take k))] 4 (0, 0)) := by
            rw [heapq_set, if_neg hyg]
            exact hI7.b7
          have KF : KeepsFrom w3.heap.size w7 (w7.setCell ⟨g, q2, none⟩ (.pointer (some ⟨q6, 0, none⟩))) := (KeepsOthers.setCell _ _ _).from _
          refine wpE_one (i := 15) rfl (by kernel_rfl) rfl ?_
          unfold wpMid
          simp only [opsAt_nil, opsAt_cons, consOpt_some, List.getElem?_toArray, List.getElem?_cons_zero, List.getElem?_cons_succ]
          go_wp2
          refine onlyNormal_mk ⟨⟨keepT_set hb7 hcurg q2 (.pointer (some ⟨q6, 0, none⟩)), rfl⟩, ?_⟩
          have c78 := cell_of_row _ (y + 1) 0 _ _ _ b78
          have q78 := frozen_of_row _ (y + 1) 0 _ _ b78
          simp at c78
          generalize w7.setCell ⟨g, q2, none⟩ (.pointer (some ⟨q6, 0, none⟩)) = w8 at *
          refine wpE_tail rfl (by kernel_rfl) ?_
          simp only [opsAt_nil, opsAt_cons, consOpt_some, List.getElem?_toArray, List.getElem?_cons_zero, List.getElem?_cons_succ]
          go_wp2
          refine onlyNormal_mk ?_
          gi_wp2
          refine ⟨?_, ?_, ?_⟩
          · exact ((KeepsFrom.of_grownBy (grown_of_below hb5) (fun r e => by cases e)).trans (KeepsFrom.of_grownBy (grown_of_below hb7) (fun r e => by cases e))).trans (KF.trans ((KeepsOthers.setCell _ _ _).from _))
          · exact kpW_t (kpW_below (by have := hI2.below.size; have := HX.out; omega) hb5) (kpW_t (kpW_below (by have := hI5.below.size; have := HX.out; omega) hb7) KW)
          · rw [take_snoc hxw, relaxGo_snoc, moreGo_snoc, relax_yes (far_get hol) HG.out, HG.out, Bool.or_true]
            exact FS
        · have hd : decide (v < u + q3) = false := decide_eq_false hlt
          have HG : Hid (grows l (relaxGo l l ((waysM acts).take k)) (q1, q2, q3) = false) := HG9.out.trans hd
          gi_wp2_with (fail)
          refine wpIn_region_xt (by kernel_rfl) (by kernel_rfl) (by kernel_rfl) ?_
          repeat (go_big_quiet_step (fail))
          refine wpQuiet_nil ?_
          intro w5 hx5
          have hb5 := Xt.below hx5
          clear hx5
          gi_wp2
          refine ⟨KeepsFrom.of_grownBy (grown_of_below hb5) (fun r e => by cases e), kpW_below (by have := hI2.below.size; have := HX.out; omega) hb5, ?_⟩
          rw [take_snoc hxw, relaxGo_snoc, moreGo_snoc, relax_no HG.out, HG.out, Bool.or_false]
          exact hI2.more_below hb5
  case done =>
    rintro D W hD hI hK
    have hsl : (stepsM acts).length = (waysM acts).length := by rw [← steps_ways, List.length_map]
    rw [hsl, List.take_length] at hI
    have c6 := cell_of_row W y 0 _ _ _ hI.b6
    have c7 := cell_of_row W (y + 1) 0 _ _ _ hI.b7
    simp at c6 c7
    gi_wp2_with (fail)
    refine wpIn_wide.2 ?_
    have x6 := fun y' : Xt W => y'.cell c6
    have x7 := fun y' : Xt W => y'.cell c7
    refine wp_region_xt (by kernel_rfl) (by kernel_rfl) ?_
    repeat (go_big_quiet_step (fail))
    refine wpQuiet_nil ?_
    intro w5 hx5
    have hb5 := Xt.below hx5
    clear hx5 x6 x7 c6 c7
    have hI5 := hI.more_below hb5
    have hK5 := blk hb5 hK
    gi_wp2
    refine ⟨by simp, .inl ⟨_, _, rfl, run_takeDeferred hK5, ?_⟩⟩
    obtain ⟨vsN, r1, r2, r3⟩ := hI5.row
    have hDx : x ≤ D := by have := hbW.size; have := HX.out; omega
    refine ⟨_, by simp [results, Tryz.results54, go_sem], some ⟨g, 0, none⟩, c, vsN, rfl, rd_own (ownsRow_putObj r1 _ hK5 rfl), r2.kp (fun b cur hb => put_cells hK5 rfl hb), by rw [HX.out]; exact r3, ?_⟩
    rw [HX.out]
    exact hI5.below.trans ((Below.refl x w5).grown (grownBy_putObj' w5 D _) (by have := hI5.below.size; have := HX.out; omega) (fun k e => by cases e; omega))
end Go.Proofs.YtnnnpijepdjanaaGreat
