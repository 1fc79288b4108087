/- The code: Late, of a right day. The earliest right times, or that they are too great. The last law of the chapter: what stands in memory; copies of numbers in memory of their own. -/
import Derived.Test.YtnnnpijepdjanaaGreatL11
import Derived.Test.YtnnnpijepdjanaaGreatB14
import Derived.Test.YtnnnpijepdjanaaGreatM1
namespace Go.Proofs.YtnnnpijepdjanaaGreat
open Go.RowKit

set_option maxRecDepth 100000 in
set_option maxHeartbeats 4000000 in
theorem openLate_right (w : World) (B : Nat) (Ae Aa : Option Addr) (ne ce na ca : Nat) (evs : List ByteArray) (acts : List Act) (h : NetAt w B Ae Aa ne ce na evs acts) (hB : B ≤ w.heap.size) (hR : NetR evs acts) (At : Option Addr) (ct : Nat) (l : List Int) (hl : l.length = ne) (ht : Rd w B At (intCells l)) (hr : ∀ t ∈ l, 0 ≤ t ∧ t ≤ 10000000) (hk : ∀ a ∈ acts, brokenB l a = false)
    (Ad : Option Addr) (n c : Nat) (ds : List Dl) (hld : ds.length = n) (hnc : n ≤ c) (hd : Rd w B Ad (dlCells ds)) (hD : DlsR ne ds) :
    Calls Tryz.prog 25 #[netV Ae ne ce Aa na ca, .slice At ne ct, .slice Ad n c] w (OpenPost w Ae ne ce Aa na ca) := by
  have hne2 : ne ≤ 16 := by rw [← h.le]; exact hR.e2
  have OP := fun (W : World) (hb : Below w.heap.size w W) => openTimes_right W B Ae Aa ne ce na ca evs acts (h.below (hb.mono hB)) (Nat.le_trans hB hb.size) hR B At ct l hl (ht.below (hb.mono hB)) (Nat.le_trans hB hb.size) hr hk
  have DE := fun (W : World) (hb : Below w.heap.size w W) => delaysErr_right W Ae ne ce Aa na ca (by omega) B Ad n c ds hld hnc (hd.below (hb.mono hB)) (Nat.le_trans hB hb.size) hD
  have hb0 : Below w.heap.size w ((w.alloc (.cells #[.slice Ae ne ce, .slice Aa na ca] 25)).alloc (.cells #[.slice none 0 0, .slice none 0 0] 66)) := ((Below.refl _ _).alloc (Nat.le_refl _) _).alloc (by simp) _
  have k0 : ((w.alloc (.cells #[.slice Ae ne ce, .slice Aa na ca] 25)).alloc (.cells #[.slice none 0 0, .slice none 0 0] 66)).heap[w.heap.size]? = some (.cells #[.slice Ae ne ce, .slice Aa na ca] 25 (0, 0)) := by rw [heapq_alloc, if_neg (by simp), heapq_alloc, if_pos rfl]
  have kr : ((w.alloc (.cells #[.slice Ae ne ce, .slice Aa na ca] 25)).alloc (.cells #[.slice none 0 0, .slice none 0 0] 66)).heap[w.heap.size + 1]? = some (.cells #[.slice none 0 0, .slice none 0 0] 66 (0, 0)) := by rw [heapq_alloc, if_pos (by simp)]
  clear h ht hd hk hr hD hR
  unfold netV at OP ⊢
  unfold OpenPost at OP
  go_enter Tryz.func25, Tryz.ntmps25
  go_upto_region 1 with (fail)
  generalize ((w.alloc (.cells #[.slice Ae ne ce, .slice Aa na ca] 25)).alloc (.cells #[.slice none 0 0, .slice none 0 0] 66)) = w0 at *
  obtain ⟨d0, d1⟩ := cells2 k0
  go_upto_region 2 with (go_at_call 43; refine (OP _ hb0).mono ?_; rintro e w1 ⟨rfl, hb1⟩)
  have hbA := hb0.trans ((hb1.alloc hb1.size (.cells #[.slice Ae ne ce, .slice Aa na ca] 66)).mono hb0.size)
  have k4 : (w1.alloc (.cells #[.slice Ae ne ce, .slice Aa na ca] 66)).heap[w1.heap.size]? = some (.cells #[.slice Ae ne ce, .slice Aa na ca] 66 (0, 0)) := by rw [heapq_alloc, if_pos rfl]
  replace kr := blk (hb1.alloc hb1.size (.cells #[.slice Ae ne ce, .slice Aa na ca] 66)) kr
  clear hb0 hb1 k0 d0 d1 OP
  generalize w1.alloc (.cells #[.slice Ae ne ce, .slice Aa na ca] 66) = w4 at *
  generalize w1.heap.size = g at *
  obtain ⟨d0, d1⟩ := cells2 k4
  go_upto_region 4 with (fail)
  have x0 := fun z : Xt w4 => z.cell d0
  have x1 := fun z : Xt w4 => z.cell d1
  have hbd : Below w4.heap.size w4 w4.drew := (Below.refl _ _).drew
  refine wp_region_eager [4, 5] (fun w' => ∃ x : Xt w4, w' = x.1) (by kernel_rfl) ⟨⟨w4.drew, hbd⟩, rfl⟩ ?_
  refine wpE_reads5 [0, 1, 2] 3 rfl (by kernel_rfl) ?_
  simp only [opsAt_nil, opsAt_cons, consOpt_some, List.getElem?_toArray, List.getElem?_cons_zero, List.getElem?_cons_succ]
  repeat (go_big_quiet_step (fail))
  refine wpQuiet_nil ?_
  show wpE _ _ _ _ _ _ _ _ _ w4.drew
  have DE4 := DE w4.drew (hbA.trans (hbd.mono hbA.size))
  clear DE x0 x1 d0 d1
  generalize w4.drew = w5 at *
  refine wpE_one (i := 3) rfl (by kernel_rfl) rfl ?_
  unfold wpMid
  simp only [opsAt_nil, opsAt_cons, consOpt_some, List.getElem?_toArray, List.getElem?_cons_zero, List.getElem?_cons_succ]
  go_wp2_with (go_at_call 44; refine DE4.mono ?_; rintro e w6 ⟨rfl, hb6⟩)
  have hb7 := hbd.trans (hb6.mono hbd.size)
  refine onlyNormal_mk ⟨⟨⟨_, hb7⟩, rfl⟩, ?_⟩
  refine wpE_tail rfl (by kernel_rfl) ?_
  simp only [opsAt_nil, opsAt_cons, consOpt_some, List.getElem?_toArray, List.getElem?_cons_zero, List.getElem?_cons_succ]
  obtain ⟨r0, r1, q0, q1⟩ := res2 (blk hb7 kr)
  have HBC := Lib.hid (hbA.trans (hb7.mono hbA.size))
  clear hb6 hb7 hbd hbA DE4 kr k4
  go_wp2
  refine onlyNormal_mk ?_
  go_wp2
  refine bodyPost_ret (v := .tuple #[.agg #[.slice Ae ne ce, .slice Aa na ca], .int .i64 0]) (by simp [results, Tryz.results25, go_sem, r0, r1]) rfl ⟨rfl, ?_⟩
  exact HBC.out.trans (put2_below _ _ (Nat.le_succ _))

/-- numbers lie in no block of slices -/
theorem rd_neI {w : World} {B g t : Nat} {A : Option Addr} {l : List Int} {v0 v1 : Value} (h : Rd w B A (intCells l)) (hg : w.heap[g]? = some (.cells #[v0, v1] t (0, 0))) (h0 : ∀ n, v0 ≠ .int .i64 n) (h1 : ∀ n, v1 ≠ .int .i64 n) : ∀ (k : Nat) (u : Value), (intCells l)[k]? = some u → ∀ b off, A = some ⟨b, off, none⟩ → b ≠ g := by
  intro k u hk b off hA he
  obtain ⟨b', off', hA', _, hc⟩ := h k u hk
  rw [hA] at hA'
  simp only [Option.some.injEq, Addr.mk.injEq, and_true] at hA'
  obtain ⟨rfl, rfl⟩ := hA'
  subst he
  rw [cell_of_row w b _ _ _ _ hg] at hc
  obtain ⟨m, _, rfl⟩ : ∃ m, m ∈ l ∧ Value.int .i64 m = u := by
    have := List.mem_of_getElem? hk
    simpa [intCells] using this
  match off + k, hc with
  | 0, hc => exact h0 m (by simpa using hc)
  | 1, hc => exact h1 m (by simpa using hc)
  | j + 2, hc => simp at hc
def LPost (w : World) (ne : Nat) (times : List Int) (acts : List Act) (ds : List Dl) (e : Ending) (w' : World) : Prop :=
  ∃ (gA cA : Nat) (Ag : Option Addr) (m cg : Nat) (ord : List Nat) (G : List Int), e = .returned (.tuple #[.agg #[.slice (some ⟨gA, 0, none⟩) ne cA, .slice Ag m cg], .int .i64 0]) ∧ ord.Perm (List.range ne) ∧ ord.Pairwise (tmLt times) ∧ (G.length = m ∧ m ≤ 1000) ∧ (∀ x, x ∈ G ↔ x ∈ (ltOrd times acts ord (addD ds times, [])).2) ∧
    Rd w' w'.heap.size (some ⟨gA, 0, none⟩) (intCells (ltOrd times acts ord (addD ds times, [])).1) ∧ Rd w' w'.heap.size Ag (intCells G) ∧ Below w.heap.size w w'
set_option maxRecDepth 100000 in
set_option maxHeartbeats 4000000 in
theorem Late_right (w : World) (B : Nat) (Ae Aa : Option Addr) (ne ce na ca : Nat) (evs : List ByteArray) (acts : List Act) (h : NetAt w B Ae Aa ne ce na evs acts) (hB : B ≤ w.heap.size) (hR : NetR evs acts) (hna : na ≤ 30) (At : Option Addr) (ct : Nat) (l : List Int) (hl : l.length = ne) (ht : Rd w B At (intCells l)) (hr : ∀ t ∈ l, 0 ≤ t ∧ t ≤ 10000000) (hk : ∀ a ∈ acts, brokenB l a = false)
    (Ad : Option Addr) (n c : Nat) (ds : List Dl) (hld : ds.length = n) (hnc : n ≤ c) (hd : Rd w B Ad (dlCells ds)) (hD : DlsR ne ds) :
    Calls Tryz.prog 9 #[netV Ae ne ce Aa na ca, .slice At ne ct, .slice Ad n c] w (LPost w ne l acts ds) := by
  have hne1 : 1 ≤ ne := by rw [← h.le]; exact hR.e1
  have hne2 : ne ≤ 16 := by rw [← h.le]; exact hR.e2
  have hac : ∀ a ∈ acts, actR ne a := by have h9 := hR.ac; rw [h.le] at h9; exact h9
  have hn12 : n ≤ 12 := by rw [← hld]; exact hD.n
  have OP := fun (W : World) (hb : Below w.heap.size w W) => openLate_right W B Ae Aa ne ce na ca evs acts (h.below (hb.mono hB)) (Nat.le_trans hB hb.size) hR At ct l hl (ht.below (hb.mono hB)) hr hk Ad n c ds hld hnc (hd.below (hb.mono hB)) hD
  have LT := fun (W : World) (hb : Below w.heap.size w W) => late_any W ne Ae ce Aa na ca acts At ct l Ad n c ds hne1 hne2 h.la hna hl hld hn12 hac hD.r ((h.ra.below (hb.mono hB)).mono (Nat.le_trans hB hb.size)) ((ht.below (hb.mono hB)).mono (Nat.le_trans hB hb.size)) ((hd.below (hb.mono hB)).mono (Nat.le_trans hB hb.size)) hr
  have hb0 : Below w.heap.size w ((w.alloc (.cells #[.slice Ae ne ce, .slice Aa na ca] 25)).alloc (.cells #[.slice none 0 0, .slice none 0 0] 34)) := ((Below.refl _ _).alloc (Nat.le_refl _) _).alloc (by simp) _
  have k0 : ((w.alloc (.cells #[.slice Ae ne ce, .slice Aa na ca] 25)).alloc (.cells #[.slice none 0 0, .slice none 0 0] 34)).heap[w.heap.size]? = some (.cells #[.slice Ae ne ce, .slice Aa na ca] 25 (0, 0)) := by rw [heapq_alloc, if_neg (by simp), heapq_alloc, if_pos rfl]
  have kr : ((w.alloc (.cells #[.slice Ae ne ce, .slice Aa na ca] 25)).alloc (.cells #[.slice none 0 0, .slice none 0 0] 34)).heap[w.heap.size + 1]? = some (.cells #[.slice none 0 0, .slice none 0 0] 34 (0, 0)) := by rw [heapq_alloc, if_pos (by simp)]
  clear h ht hd hk hr hD hR hac
  unfold netV at OP ⊢
  unfold OpenPost at OP
  go_enter Tryz.func9, Tryz.ntmps9
  go_upto_region 1 with (fail)
  generalize ((w.alloc (.cells #[.slice Ae ne ce, .slice Aa na ca] 25)).alloc (.cells #[.slice none 0 0, .slice none 0 0] 34)) = w0 at *
  obtain ⟨d0, d1⟩ := cells2 k0
  go_upto_region 2 with (go_at_call 25; refine (OP _ hb0).mono ?_; rintro e w1 ⟨rfl, hb1⟩)
  have hbA := hb0.trans ((hb1.alloc hb1.size (.cells #[.slice Ae ne ce, .slice Aa na ca] 66)).mono hb0.size)
  have k4 : (w1.alloc (.cells #[.slice Ae ne ce, .slice Aa na ca] 66)).heap[w1.heap.size]? = some (.cells #[.slice Ae ne ce, .slice Aa na ca] 66 (0, 0)) := by rw [heapq_alloc, if_pos rfl]
  replace kr := blk (hb1.alloc hb1.size (.cells #[.slice Ae ne ce, .slice Aa na ca] 66)) kr
  clear hb0 hb1 k0 d0 d1 OP
  generalize w1.alloc (.cells #[.slice Ae ne ce, .slice Aa na ca] 66) = w4 at *
  generalize w1.heap.size = g at *
  obtain ⟨d0, d1⟩ := cells2 k4
  have LT4 := LT w4 hbA
  clear LT
  go_wp2_with (go_at_call 26; refine stp ?_)
  unfold Stp
  refine LT4.mono ?_
  rintro e w5 ⟨gA, cA, Ag, m, cg, ord, G, rfl, h1, h2, h3, h4, h5, h6, hb5⟩
  have kr5 := blk hb5 kr
  obtain ⟨r0, r1, q0, q1⟩ := res2 kr5
  have HBC := Lib.hid (hbA.trans (hb5.mono hbA.size))
  have N1 := rd_neI h5 kr5 (by simp) (by simp)
  have N2 := rd_neI h6 kr5 (by simp) (by simp)
  have H5 := Lib.hid h5
  have H6 := Lib.hid h6
  have HN1 := Lib.hid N1
  have HN2 := Lib.hid N2
  clear hb5 hbA LT4 kr kr5 k4 d0 d1 h5 h6 N1 N2
  go_wp2
  refine bodyPost_ret (v := .tuple #[.agg #[.slice (some ⟨gA, 0, none⟩) ne cA, .slice Ag m cg], .int .i64 0]) (by simp [results, Tryz.results9, go_sem, r0, r1]) rfl ⟨gA, cA, Ag, m, cg, ord, G, rfl, h1, h2, h3, h4, ?_, ?_, ?_⟩
  · exact rd_set2 ⟨H5.out, Nat.le_refl _, HN1.out⟩
  · exact rd_set2 ⟨H6.out, Nat.le_refl _, HN2.out⟩
  · exact HBC.out.trans (put2_below _ _ (Nat.le_succ _))
end Go.Proofs.YtnnnpijepdjanaaGreat

namespace Go.Proofs.YtnnnpijepdjanaaGreat
open Go.RowKit

/-- the times, in a block that the call has made, or no times: a cycle -/
def EarlPostL (w : World) (ne : Nat) (r : Far × Bool) (e : Ending) (w' : World) : Prop :=
  ((r.2 = true ∧ e = .returned (.tuple #[.slice none 0 0, .int .i64 19])) ∨ (r.2 = false ∧ e = .returned (.tuple #[.slice none 0 0, .int .i64 8])) ∨ (r.2 = false ∧ ∃ A c qs, r.1 = qs.map some ∧ qs.length = ne ∧ e = .returned (.tuple #[.slice A ne c, .int .i64 0]) ∧ Rd w' w'.heap.size A (intCells qs) ∧ ∀ x ∈ qs, x ≤ 10000000)) ∧ Below w.heap.size w w'
def ErRelL (w0 : World) (base ne : Nat) (qs : List Int) (u10 u38 : Value) (wr : World) : Prop :=
  ∃ k : Nat, k ≤ ne ∧ u38 = .int .i64 k ∧ wr.ownsRow base 3 1 u10 k (intCells (qs.take k)) ∧ Below w0.heap.size w0 wr ∧ ∀ x ∈ qs.take k, x ≤ 10000000
set_option maxRecDepth 100000 in
set_option maxHeartbeats 8000000 in
theorem Earliest_large (w : World) (B : Nat) (Ae Aa : Option Addr) (ne ce na ca : Nat) (evs : List ByteArray) (acts : List Act) (h : NetAt w B Ae Aa ne ce na evs acts) (hB : B ≤ w.heap.size) (hR : NetR evs acts)
    (At : Option Addr) (ct : Nat) (l : List Int) (hl : l.length = ne) (ht : Rd w B At (intCells l)) (hr : ∀ t ∈ l, 0 ≤ t ∧ t ≤ 10000000) :
    Calls Tryz.prog 16 #[netV Ae ne ce Aa na ca, .slice At ne ct] w (EarlPostL w ne (longM (waysM acts) ne (l.map some))) := by
  have hne1 : 1 ≤ ne := by rw [← h.le]; exact hR.e1
  have hne2 : ne ≤ 16 := by rw [← h.le]; exact hR.e2
  have hna1 : na ≤ 30 := by rw [← h.la]; exact hR.a1
  have hac : ∀ a ∈ acts, actR ne a := by rw [← h.le]; exact hR.ac
  obtain ⟨i1, hi1, hy0, hy1, hy2⟩ := info_parts info3
  have HFUL : Hid ((longM (waysM acts) ne (l.map some)).1.length = ne ∧ fullF ne (longM (waysM acts) ne (l.map some)).1) := by
    obtain ⟨t, _, hq, _⟩ := long_iter (ws := waysM acts) ne (l := l.map some) (q := (longM (waysM acts) ne (l.map some)).1) (b := (longM (waysM acts) ne (l.map some)).2) rfl
    rw [Hid, hq]
    exact ⟨by rw [iterF_len]; simpa using hl, full_iter (by simpa using hl) (ways_in hac) (full_map hl) t⟩
  have hbm : ∀ i u, farAt (l.map some) i = some u → -10000000 ≤ u ∧ u ≤ 10000000 := fun i u hu => by
    unfold farAt at hu
    rw [List.getElem?_map] at hu
    cases hx : l[i]? with
    | none =>
      rw [hx] at hu
      simp at hu
    | some y =>
      rw [hx] at hu
      simp at hu
      subst hu
      have := hr y (List.mem_of_getElem? hx)
      omega
  have hb0 : Below w.heap.size w (w.alloc (.cells #[.slice Ae ne ce, .slice Aa na ca] 25)) := (Below.refl _ _).alloc (Nat.le_refl _) _
  have k0 : (w.alloc (.cells #[.slice Ae ne ce, .slice Aa na ca] 25)).heap[w.heap.size]? = some (.cells #[.slice Ae ne ce, .slice Aa na ca] 25 (0, 0)) := by rw [heapq_alloc, if_pos rfl]
  have hN := h.below (hb0.mono hB)
  have ht0 := ht.below (hb0.mono hB)
  have hB0 := Nat.le_trans hB hb0.size
  have hs := hb0.size
  have HB := Lib.hid hb0
  obtain ⟨d0, d1⟩ := cells2 k0
  have OP := fun (W : World) (hW : NetAt W B Ae Aa ne ce na evs acts) (hBW : B ≤ W.heap.size) => open_right W B Ae Aa ne ce na ca evs acts hW hBW hR
  have TE := fun (W : World) (hW : Rd W B At (intCells l)) (hBW : B ≤ W.heap.size) => timesErr_right W B Ae ne ce Aa na ca At ct l (by omega) hl hW hBW hr
  have ST := fun (W : World) (hW : Rd W B At (intCells l)) (hBW : B ≤ W.heap.size) => starts_any W B At ne ct l hl (by omega) hW hBW
  have LG := fun (W : World) (hW : NetAt W B Ae Aa ne ce na evs acts) (hBW : B ≤ W.heap.size) (A2 : Option Addr) (c2 : Nat) (vs : List Value) (hv : LabsAt W 0 vs (l.map some)) (hrd : Rd W W.heap.size A2 vs) => longest_any W B Ae Aa ne ce na ca evs acts hW hBW (by omega) hac A2 c2 0 vs (l.map some) (by simpa using hl) hne1 hne2 hv hrd hbm
  unfold netV at OP ⊢
  unfold OpenPost at OP
  obtain ⟨r, hrr⟩ : ∃ r, longM (waysM acts) ne (l.map some) = r := ⟨_, rfl⟩
  rw [hrr] at LG HFUL ⊢
  clear hb0 k0 h ht hrr hbm hl hr hac hR
  go_enter Tryz.func16, Tryz.ntmps16
  go_upto_region 1 with (fail)
  generalize (w.alloc (.cells #[.slice Ae ne ce, .slice Aa na ca] 25)) = w0 at *
  go_upto_region 2 with (go_at_call 27; refine (OP _ hN hB0).mono ?_; rintro e w1 ⟨rfl, hb1⟩; have hbA := hb1.trans ((Below.refl w1.heap.size w1).alloc (Nat.le_refl _) (.cells #[.slice Ae ne ce, .slice Aa na ca] 66) |>.mono hb1.size))
  have kN : (w1.alloc (.cells #[.slice Ae ne ce, .slice Aa na ca] 66)).heap[w1.heap.size]? = some (.cells #[.slice Ae ne ce, .slice Aa na ca] 66 (0, 0)) := by rw [heapq_alloc, if_pos rfl]
  replace hN := hN.below (hbA.mono hB0)
  replace ht0 := ht0.below (hbA.mono hB0)
  replace HB := Lib.hid (HB.out.trans (hbA.mono hs))
  replace hs := Nat.le_trans hs hbA.size
  replace hB0 := Nat.le_trans hB0 hbA.size
  clear hb1 hbA d0 d1
  generalize w1.alloc (.cells #[.slice Ae ne ce, .slice Aa na ca] 66) = w2 at *
  generalize w1.heap.size = y at *
  obtain ⟨d0, d1⟩ := cells2 kN
  have F2 := fun (W : World) a b => first2 W a b
  go_upto_region 5 with (first | (go_at_call 29; refine (TE _ ht0 hB0).mono ?_; rintro e w3 ⟨rfl, hb1⟩; clear TE) | (go_at_call 28; refine (F2 _ _ _).mono ?_; rintro e w4 ⟨rfl, rfl⟩; clear F2))
  have hbA := hb1.trans ((Below.refl w3.heap.size w3).alloc (Nat.le_refl _) (.cells #[.int .i64 0, .int .i64 0] 35) |>.mono hb1.size)
  replace d0 := kept hbA d0
  replace d1 := kept hbA d1
  replace hN := hN.below (hbA.mono hB0)
  replace ht0 := ht0.below (hbA.mono hB0)
  replace HB := Lib.hid (HB.out.trans (hbA.mono hs))
  replace hs := Nat.le_trans hs hbA.size
  replace hB0 := Nat.le_trans hB0 hbA.size
  clear hb1 hbA kN OP
  generalize w3.alloc (.cells #[.int .i64 0, .int .i64 0] 35) = w5 at *
  have x0 := fun x : Xt w5 => x.cell d0
  have x1 := fun x : Xt w5 => x.cell d1
  refine wp_region_eager [8] (fun w' => ∃ x : Xt w5, w' = x.1) (by kernel_rfl) ⟨⟨w5.drew, (Below.refl _ _).drew⟩, rfl⟩ ?_
  refine wpE_reads [0, 1] 7 rfl (by kernel_rfl) ?_
  simp only [opsAt_nil, opsAt_cons, consOpt_some, List.getElem?_toArray, List.getElem?_cons_zero, List.getElem?_cons_succ]
  repeat (go_big_quiet_step (fail))
  refine wpQuiet_nil ?_
  have hbd : Below w5.heap.size w5 w5.drew := (Below.refl _ _).drew
  show wpE _ _ _ _ _ _ _ _ _ w5.drew
  generalize w5.drew = wd at *
  refine wpE_one (i := 2) rfl (by kernel_rfl) rfl ?_
  unfold wpMid
  simp only [opsAt_nil, opsAt_cons, consOpt_some, List.getElem?_toArray, List.getElem?_cons_zero, List.getElem?_cons_succ]
  go_wp2_with (go_at_call 31; refine (ST wd (ht0.below (hbd.mono hB0)) (Nat.le_trans hB0 hbd.size)).mono ?_; rintro e w6 ⟨A2, c2, vs, rfl, hrd2, hlab2, hb6⟩)
  have hb7 := hbd.trans (hb6.mono hbd.size)
  refine onlyNormal_mk ⟨⟨⟨_, hb7⟩, rfl⟩, ?_⟩
  refine wpE_one (i := 3) rfl (by kernel_rfl) rfl ?_
  unfold wpMid
  simp only [opsAt_nil, opsAt_cons, consOpt_some, List.getElem?_toArray, List.getElem?_cons_zero, List.getElem?_cons_succ]
  go_wp2_with (go_at_call 30; refine (LG w6 (hN.below (hb7.mono hB0)) (Nat.le_trans hB0 hb7.size) A2 c2 vs hlab2 hrd2).mono ?_; rintro e w8 ⟨A3, c3, vs3, p, rfl, hrd3, hlab3, hp0, hp1, hb8⟩)
  have hb9 := hb7.trans (hb8.mono hb7.size)
  refine onlyNormal_mk ⟨⟨⟨_, hb9⟩, rfl⟩, ?_⟩
  refine wpE_reads [4, 5, 6, 7] 1 rfl (by kernel_rfl) ?_
  simp only [opsAt_nil, opsAt_cons, consOpt_some, List.getElem?_toArray, List.getElem?_cons_zero, List.getElem?_cons_succ]
  repeat (go_big_quiet_step (fail))
  refine wpQuiet_nil ?_
  refine wpE_tail rfl (by kernel_rfl) ?_
  simp only [opsAt_nil, opsAt_cons, consOpt_some, List.getElem?_toArray, List.getElem?_cons_zero, List.getElem?_cons_succ]
  go_wp2
  refine onlyNormal_mk ?_
  replace HB := Lib.hid (HB.out.trans (hb9.mono hs))
  replace hs := Nat.le_trans hs hb9.size
  clear hb9 hb8 hb7 hb6 hbd x0 x1 d0 d1 hN ht0 hlab2 hrd2 ST LG hB0
  cases hr2 : r.2 with
  | true =>
    obtain ⟨u, n, hl9⟩ := hp1 hr2
    obtain ⟨g, rfl, _⟩ := hl9.lt
    have HR2 := Lib.hid hr2
    clear hl9 hp0 hp1 hr2 hrd3 hlab3
    go_wp2
    go_ret2
    exact ⟨.inl ⟨HR2.out, rfl⟩, HB.out⟩
  | false =>
    obtain rfl := hp0 hr2
    obtain ⟨qs, hqs⟩ := full_list HFUL.out.1 HFUL.out.2
    have hql : qs.length = ne := by rw [← HFUL.out.1, hqs, List.length_map]
    have HR2 := Lib.hid hr2
    have HQS := Lib.hid hqs
    have HQL := Lib.hid hql
    have HL3 := Lib.hid hlab3
    have HD3 := Lib.hid hrd3
    clear hr2 hqs hql hlab3 hrd3 hp1
    go_wp2
    go_loopw [10, 38] (fun u10 u38 wr => ErRelL w8 w8.heap.size ne qs u10 u38 wr) (fun _ u38 _ => ne - (intOf u38).toNat)
    case atStart => exact ⟨0, Nat.zero_le _, rfl, ⟨rfl, .inl ⟨rfl, rfl⟩⟩, Below.refl _ _, fun x hx => by simp at hx⟩
    case round =>
      obtain ⟨k, hk, rfl, hown, hb, hqk⟩ := hrel
      have HQK := Lib.hid hqk
      clear hqk
      have HOWN := Lib.hid hown
      obtain ⟨Au, cu, rfl⟩ := rowForm hown
      have HBW := Lib.hid hb
      have hsz := hb.size
      have hrd := (HD3.out.below hb)
      have hlab := HL3.out.kp (kpL_below hb)
      clear hb hown
      by_cases hlt : k < ne
      · obtain ⟨x, hx⟩ : ∃ x, qs[k]? = some x := ⟨_, List.getElem?_eq_getElem (by rw [HQL.out]; exact hlt)⟩
        obtain ⟨v, hv⟩ : ∃ v, vs3[k]? = some v := ⟨_, List.getElem?_eq_getElem (by rw [hlab.1, HFUL.out.1]; exact hlt)⟩
        obtain ⟨b, off, hA3, _, e1⟩ := hrd k v hv
        subst hA3
        obtain ⟨g, rfl, cur, hcur, hc0⟩ : ∃ g, v = .pointer (some ⟨g, 0, none⟩) ∧ ∃ cur : Array Value, wr.heap[g]? = some (.cells cur 83 (0, 0)) ∧ cur[0]? = some (.int .i64 x) := by
          rcases hlab.2 k v (some x) hv (by rw [HQS.out, List.getElem?_map, hx]; rfl) with ⟨_, h9⟩ | ⟨u', n', _, h9, h8⟩
          · cases h9
          · cases h9
            exact h8.cell
        have cl := (cell_of_row _ _ 0 _ _ _ hcur).trans hc0
        have HTX := Lib.hid (take_snoc hx)
        have HT : Hid (intCells (qs.take (k + 1)) = intCells (qs.take k) ++ [.int .i64 x]) := by
          rw [Hid, take_snoc hx, intCells, List.map_append]
          rfl
        have hba : Below wr.heap.size wr (wr.alloc (.cells #[.int .i64 x] 3)) := (Below.refl _ _).alloc (Nat.le_refl _) _
        clear hx hv hlab hrd hcur hc0
        by_cases hxb : x ≤ 10000000
        case neg =>
          have hxb2 : 10000000 < x := by omega
          clear hxb hba
          go_wp2
          go_ret2
          exact ⟨.inr (.inl ⟨HR2.out, rfl⟩), HB.out.trans (HBW.out.mono hs)⟩
        go_wp2_with (at_builtin; refine stp ?_)
        unfold Stp
        refine wpList_append_lies _ rfl _ _ 26 rfl w8.heap.size 3 i1 _ 1 8 Tryz.underlying26 hi1 hy0 hy1 hy2 rfl (by omega) (.slice Au k cu) k (intCells (qs.take k)) rfl (HOWN.out.alloc _) ⟨wr.heap.size, 0, none⟩ 1 1 [.int .i64 x] rfl rfl (news1 (by simp)) (by simp [Value.oneCell']) (by omega) (by simp only [maxLen]; omega) (by omega) (by simp; omega) _ rfl ?_
        intro gg cap w9 hown1 hgrow hat hlt9
        have hb9 : Below w8.heap.size w8 w9 := (HBW.out.trans (hba.mono hsz)).grown hgrow (by have := hba.size; omega) (fun k hk => (ownBlk HOWN.out hk).1)
        have HOWN1 : Hid (w9.ownsRow w8.heap.size 3 1 (.slice (some ⟨gg, 0, none⟩) (k + 1) cap) (k + 1) (intCells (qs.take (k + 1)))) := by
          rw [Hid, HT.out]
          exact hown1
        have HB9 := Lib.hid hb9
        clear hown1 hgrow hat hlt9 hb9 cl e1
        go_wp2
        go_roundw
        case rel =>
          refine ⟨k + 1, by omega, by go_num, HOWN1.out, HB9.out, fun y hy => ?_⟩
          rw [HTX.out, List.mem_append, List.mem_singleton] at hy
          rcases hy with hy | rfl
          · exact HQK.out y hy
          · exact hxb
        case measure => simp [intOf]; omega
      · obtain rfl : k = ne := by omega
        have HF : Hid (qs.take k = qs) := by
          rw [Hid, ← HQL.out, List.take_length]
        clear hrd hlab
        go_wp2
        go_ret2
        refine ⟨.inr (.inr ⟨HR2.out, Au, cu, qs, HQS.out, HQL.out, rfl, ?_, ?_⟩), HB.out.trans (HBW.out.mono hs)⟩
        · have := rd_own HOWN.out
          rw [HF.out] at this
          exact this
        · intro y hy
          exact HQK.out y (by rw [HF.out]; exact hy)
end Go.Proofs.YtnnnpijepdjanaaGreat

namespace Go.Proofs.YtnnnpijepdjanaaGreat
open Go.RowKit

set_option maxHeartbeats 1000000 in
theorem CopyInts_own (w : World) (B : Nat) (A : Option Addr) (n c : Nat) (l : List Int) (hl : l.length = n) (hn : n ≤ 1000000) (h : Rd w B A (intCells l)) (hB : B ≤ w.heap.size) :
    Calls Tryz.prog 11 #[.slice A n c] w (RowIPost w l n) := by
  obtain ⟨i1, hi1, hy0, hy1, hy2⟩ := info_parts info3
  have HL := Lib.hid hl
  have h' := h.below (((Below.refl _ _).alloc (Nat.le_refl _) (.cells #[] 3) : Below w.heap.size w (w.alloc (.cells #[] 3))).mono hB)
  have hb0 : Below w.heap.size w (w.alloc (.cells #[] 3)) := (Below.refl _ _).alloc (Nat.le_refl _) _
  clear hl
  go_enter Tryz.func11, Tryz.ntmps11
  go_wp2_with (at_builtin; refine stp ?_)
  unfold Stp
  refine wpList_append_copy _ rfl _ _ 26 rfl w.heap.size 3 i1 _ 1 8 Tryz.underlying26 hi1 hy0 hy1 hy2 rfl (by omega) w.heap.size rfl (by rw [heapq_alloc, if_pos rfl]) (Nat.le_refl _) B A n c (intCells l) rfl (by rw [intCells_len, HL.out, Nat.mul_one]) h' (intCells_one l) (by simp only [maxLen]; omega) (by omega) (by simp) ?_
  intro g cap w1 hown hgrow _
  have hb1 : Below w.heap.size w w1 := hb0.grown hgrow (by simp) (fun k hk => by rw [← Option.some.inj hk]; exact Nat.le_refl _)
  have HR := Lib.hid hown
  have HB := Lib.hid hb1
  clear hown hgrow hb0 hb1 h h'
  go_wp2
  go_ret
  exact ⟨_, _, rfl, HR.out, HB.out⟩

/-- the world of the law -/
structure TlG (x B ne ce na ca : Nat) (evs : List ByteArray) (acts : List Act) (Ae Aa At : Option Addr) (ct : Nat) (times : List Int) (Ad : Option Addr) (ds : List Dl) (w W : World) : Prop where
  net : NetAt W B Ae Aa ne ce na evs acts
  rt : Rd W B At (intCells times)
  rd : Rd W B Ad (dlCells ds)
  blk : W.heap[x]? = some (.cells #[.slice Ae ne ce, .slice Aa na ca] 25 (0, 0))
  low : Below w.heap.size w W
  hB : B ≤ w.heap.size
  hx : w.heap.size ≤ x
theorem TlG.belowX {x B ne ce na ca : Nat} {evs : List ByteArray} {acts : List Act} {Ae Aa At : Option Addr} {ct : Nat} {times : List Int} {Ad : Option Addr} {ds : List Dl} {w W V : World} (h : TlG x B ne ce na ca evs acts Ae Aa At ct times Ad ds w W) (hb : Below (x + 1) W V) : TlG x B ne ce na ca evs acts Ae Aa At ct times Ad ds w V :=
  have h1 : Below w.heap.size W V := hb.mono (by have := h.hx; omega)
  have h2 : Below B W V := h1.mono h.hB
  ⟨h.net.below h2, h.rt.below h2, h.rd.below h2, (hb.block x (by omega)).trans h.blk, h.low.trans h1, h.hB, h.hx⟩
theorem TlG.below {x B ne ce na ca : Nat} {evs : List ByteArray} {acts : List Act} {Ae Aa At : Option Addr} {ct : Nat} {times : List Int} {Ad : Option Addr} {ds : List Dl} {w W V : World} (h : TlG x B ne ce na ca evs acts Ae Aa At ct times Ad ds w W) (hb : Below W.heap.size W V) : TlG x B ne ce na ca evs acts Ae Aa At ct times Ad ds w V :=
  h.belowX (hb.mono (Array.getElem?_eq_some_iff.1 h.blk).1)
theorem TlG.hBW {x B ne ce na ca : Nat} {evs : List ByteArray} {acts : List Act} {Ae Aa At : Option Addr} {ct : Nat} {times : List Int} {Ad : Option Addr} {ds : List Dl} {w W : World} (h : TlG x B ne ce na ca evs acts Ae Aa At ct times Ad ds w W) : B ≤ W.heap.size := Nat.le_trans h.hB h.low.size
theorem left_take {times X : List Int} {acts : List Act} {k : Nat} {a : Act} (h : acts[k]? = some a) : leftM times X (acts.take (k + 1)) = leftM times X (acts.take k) ++ (if gone times X a = true then [] else [openA a]) := by
  rw [List.take_add_one, h, leftM, leftM]
  cases hg : gone times X a <;> simp [hg]
theorem right_gt {l : List Int} {acts : List Act} {a : Act} (hk : ∀ a ∈ acts, brokenB l a = false) (ha : a ∈ acts) : gt l a.src.toNat + a.least ≤ gt l a.dst.toNat := by
  have h9 := hk a ha
  simp only [brokenB, Bool.or_eq_false_iff, decide_eq_false_iff_not] at h9
  unfold gt
  omega
theorem left_kept {times X : List Int} {acts : List Act} (hk : ∀ a ∈ acts, gone times X a = false → gt X a.src.toNat + a.least ≤ gt X a.dst.toNat) : ∀ b ∈ leftM times X acts, brokenB X b = false := fun b hb => by
  obtain ⟨a, ha, hg, rfl⟩ := left_mem.1 hb
  have h9 := hk a ha hg
  unfold gt at h9
  simp only [brokenB, openA, Bool.or_eq_false_iff]
  exact ⟨decide_eq_false (by omega), by simp⟩
theorem left_len {times X : List Int} (acts : List Act) : (leftM times X acts).length ≤ acts.length := by
  rw [leftM, List.length_map]
  exact List.length_filter_le _ _
theorem left_netR {evs : List ByteArray} {acts : List Act} {times X : List Int} (h : NetR evs acts) : NetR evs (leftM times X acts) :=
  ⟨h.e1, h.e2, h.ev, Nat.le_trans (left_len acts) h.a1, left_actR h.ac⟩
end Go.Proofs.YtnnnpijepdjanaaGreat
