/- The code: a right net is accepted. -/
import Derived.Test.YtnnnpijepdjanaaGreatA9
namespace Go.Proofs.YtnnnpijepdjanaaGreat
open Go.RowKit

theorem evGo_step {pre : List ByteArray} {x : ByteArray} {l : List ByteArray} (h : evGo pre (x :: l) = 0) : nameB x = true ∧ hasT pre x = false ∧ evGo (pre ++ [x]) l = 0 := by
  rw [evGo] at h
  by_cases h1 : nameB x = false
  · rw [if_pos h1] at h
    omega
  rw [if_neg h1] at h
  by_cases h2 : hasT pre x = true
  · rw [if_pos h2] at h
    omega
  rw [if_neg h2] at h
  exact ⟨by simpa using h1, by simpa using h2, h⟩
theorem isName_val (s : ByteArray) (b : Bool) (hb : nameB s = b) (hs9 : s.size ≤ 1000000000) (w : World) : Calls Tryz.prog 72 #[.string s] w fun e w' => e = .returned (.bool b) ∧ Below w.heap.size w w' := by
  rw [← hb]
  exact isName_any s hs9 w
theorem ContainsT_val (A : Option Addr) (n c B : Nat) (l : List ByteArray) (s : ByteArray) (b : Bool) (hb : hasT l s = b) (w : World) (hn : n ≤ 1000000000) (hl : l.length = n) (h : Rd w B A (strCells l)) :
    Calls Tryz.prog 73 #[.slice A n c, .string s] w fun e w' => e = .returned (.bool b) ∧ w = w' := by
  rw [← hb]
  exact ContainsT_any A n c B l s w hn hl h
def CcRel (w0 : World) (evs : List ByteArray) (n : Nat) (u : Value) (wr : World) : Prop := ∃ k : Nat, k ≤ n ∧ u = .int .i64 k ∧ evGo (evs.take k) (evs.drop k) = 0 ∧ Below w0.heap.size w0 wr
def CdRel (w0 : World) (n : Nat) (u : Value) (wr : World) : Prop := ∃ k : Nat, k ≤ n ∧ u = .int .i64 k ∧ Below w0.heap.size w0 wr
def NoMark (w : World) (e : Ending) (w' : World) : Prop := e = .returned (.tuple #[.agg #[.int .i64 0, .int .i64 0], .int .i64 0]) ∧ Below w.heap.size w w'
set_option maxRecDepth 100000 in
set_option maxHeartbeats 8000000 in
theorem CheckNet_right (w : World) (B : Nat) (Ae Aa : Option Addr) (ne ce na ca : Nat) (evs : List ByteArray) (acts : List Act) (h : NetAt w B Ae Aa ne ce na evs acts) (hB : B ≤ w.heap.size) (hR : NetR evs acts) :
    Calls Tryz.prog 50 #[netV Ae ne ce Aa na ca] w (NoMark w) := by
  unfold netV
  have HE : Hid (evs.length = ne) := h.le
  have HA : Hid (acts.length = na) := h.la
  have hne1 : 1 ≤ ne := by rw [← h.le]; exact hR.e1
  have hne2 : ne ≤ 16 := by rw [← h.le]; exact hR.e2
  have hna1 : na ≤ 30 := by rw [← h.la]; exact hR.a1
  have k0 : ((w.alloc (.cells #[.slice Ae ne ce, .slice Aa na ca] 25)).alloc (.cells #[.int .i64 0, .int .i64 0] 58)).heap[w.heap.size]? = some (.cells #[.slice Ae ne ce, .slice Aa na ca] 25 (0, 0)) := by
    rw [heapq_alloc, if_neg (by simp), heapq_alloc, if_pos rfl]
  have k1 : ((w.alloc (.cells #[.slice Ae ne ce, .slice Aa na ca] 25)).alloc (.cells #[.int .i64 0, .int .i64 0] 58)).heap[w.heap.size + 1]? = some (.cells #[.int .i64 0, .int .i64 0] 58 (0, 0)) := by
    rw [heapq_alloc, if_pos (by simp)]
  have hb0 : Below w.heap.size w ((w.alloc (.cells #[.slice Ae ne ce, .slice Aa na ca] 25)).alloc (.cells #[.int .i64 0, .int .i64 0] 58)) := ((Below.refl _ _).alloc (Nat.le_refl _) _).alloc (by simp) _
  have hN := h.below (hb0.mono hB)
  have hB0 := Nat.le_trans hB hb0.size
  have hs := hb0.size
  have HB := Lib.hid hb0
  clear hb0 h
  go_enter Tryz.func50, Tryz.ntmps50
  go_upto_region 1 with (fail)
  generalize ((w.alloc (.cells #[.slice Ae ne ce, .slice Aa na ca] 25)).alloc (.cells #[.int .i64 0, .int .i64 0] 58)) = w0 at *
  obtain ⟨d0, d1⟩ := cells2 k0
  have x0 := fun y : Xt w0 => y.cell d0
  have x1 := fun y : Xt w0 => y.cell d1
  have g1 : (0 : Int) < (ne : Int) := by omega
  have g2 : (ne : Int) ≤ 16 := by omega
  refine wp_region_cut [] [0, 1, 2, 3, 4, 5, 6, 7, 8, 9] 10 [11, 12] (fun w' => ∃ y : Xt w0, w' = y.1) (by kernel_rfl) (by kernel_rfl) ⟨⟨w0.drew, (Below.refl _ _).drew⟩, rfl⟩ ?_
  simp only [opsAt_nil, opsAt_cons, consOpt_some, List.getElem?_toArray, List.getElem?_cons_zero, List.getElem?_cons_succ]
  refine wpQuiet_nil ?_
  show wpQuiet _ _ _ _ _ _
  repeat (go_big_quiet_step (first | (go_at_call 36; exact Xt.calls_same (unless_any _ _ _))))
  refine wpQuiet_nil ?_
  intro w1 hx
  have hbX := Xt.below hx
  clear hx x0 x1
  have F2 := fun a b => first2 w1 a b
  go_wp2_with (go_at_call 28; refine (F2 _ _).mono ?_; rintro e w' ⟨rfl, rfl⟩)
  refine onlyNormal_mk ?_
  clear F2
  generalize hE : firstE _ = E0
  have hE0 : E0 = 0 := by
    rw [← hE]
    simp [firstE, unlessE, show 0 < ne by omega]
  generalize hw2 : w1.alloc _ = w2
  have hb1 : Below w0.heap.size w0 w2 := by rw [← hw2]; exact hbX.alloc hbX.size _
  clear hw2 hE hbX g1 g2
  subst hE0
  replace d0 := kept hb1 d0
  replace d1 := kept hb1 d1
  replace k1 := blk hb1 k1
  replace hN := hN.below (hb1.mono hB0)
  replace HB := Lib.hid (HB.out.trans (hb1.mono hs))
  replace hs := Nat.le_trans hs hb1.size
  replace hB0 := Nat.le_trans hB0 hb1.size
  clear hb1 k0
  go_wp2
  go_loopw [30] (fun u wr => CcRel w2 evs ne u wr) (fun u _ => ne - (intOf u).toNat)
  case atStart => exact ⟨0, Nat.zero_le _, rfl, by rw [List.take_zero, List.drop_zero]; exact hR.ev, Below.refl _ _⟩
  case round =>
    obtain ⟨k, hk, rfl, hgo, hb⟩ := hrel
    replace d0 := kept hb d0
    replace d1 := kept hb d1
    replace k1 := blk hb k1
    replace hN := hN.below (hb.mono hB0)
    replace HB := Lib.hid (HB.out.trans (hb.mono hs))
    have HB0 := Lib.hid hb
    have hsz := hb.size
    clear hb
    by_cases hlt : k < ne
    · have hkl : k < evs.length := by rw [HE.out]; exact hlt
      obtain ⟨x, hx⟩ : ∃ x, evs[k]? = some x := ⟨_, List.getElem?_eq_getElem hkl⟩
      obtain ⟨b, off, hAe, _, hc⟩ := hN.re.at_ (k := k) (u := .string x) (by simp [strCells, hx])
      have hz : x.size ≤ 1000000000 := by
        have := hN.hz x (List.mem_of_getElem? hx)
        omega
      have hRt : Rd wr B Ae (strCells (evs.take k)) := fun j u hu => hN.re j u (by
        unfold strCells at hu ⊢
        rw [List.getElem?_map] at hu ⊢
        rw [List.getElem?_take] at hu
        split at hu
        · exact hu
        · simp at hu)
      rw [drop_consE hx] at hgo
      obtain ⟨hnm, hht, hgo'⟩ := evGo_step hgo
      have HT : Hid (evGo (evs.take (k + 1)) (evs.drop (k + 1)) = 0) := by
        rw [Hid, List.take_add_one, hx]
        exact hgo'
      have htl : (evs.take k).length = k := by rw [List.length_take]; omega
      have HTL := Lib.hid htl
      have hkc : k ≤ ce := Nat.le_trans hk hN.hc
      subst hAe
      clear hx hkl htl hgo hgo'
      have NM := fun W => isName_val x true hnm hz W
      have TX := fun (y : Xt wr) (c : Nat) => ContainsT_val (some ⟨b, off, none⟩) k c B (evs.take k) x false hht y.1 (by omega) HTL.out (hRt.below (y.2.mono (by omega)))
      have x0 := fun y : Xt wr => y.cell d0
      have x1 := fun y : Xt wr => y.cell d1
      clear hnm hht
      go_upto_region 7 with (fail)
      refine wp_region_cut [] [0, 1, 2, 3, 4, 5, 6, 7, 8, 9, 10] 11 [12, 13] (fun w' => ∃ y : Xt wr, w' = y.1) (by kernel_rfl) (by kernel_rfl) ⟨⟨wr.drew, (Below.refl _ _).drew⟩, rfl⟩ ?_
      simp only [opsAt_nil, opsAt_cons, consOpt_some, List.getElem?_toArray, List.getElem?_cons_zero, List.getElem?_cons_succ]
      refine wpQuiet_nil ?_
      show wpQuiet _ _ _ _ _ _
      repeat (go_big_quiet_step (first | (go_at_call 36; exact Xt.calls_same (unless_any _ _ _)) | (go_at_call 72; exact Xt.calls (NM _)) | (go_at_call 73; exact Xt.calls_same (TX _ _))))
      refine wpQuiet_nil ?_
      intro w3 hx
      have hbX := Xt.below hx
      clear hx x0 x1 NM TX
      have F2 := fun a b => first2 w3 a b
      go_wp2_with (go_at_call 28; refine (F2 _ _).mono ?_; rintro e w' ⟨rfl, rfl⟩)
      refine onlyNormal_mk ?_
      clear F2
      generalize hE : firstE _ = E0
      have hE0 : E0 = 0 := by
        rw [← hE]
        simp [firstE, unlessE]
      generalize hw4 : w3.alloc _ = w4
      have hb1 : Below wr.heap.size wr w4 := by rw [← hw4]; exact hbX.alloc hbX.size _
      clear hw4 hE hbX
      subst hE0
      replace HB0 := Lib.hid (HB0.out.trans (hb1.mono hsz))
      clear hb1
      go_wp2
      go_roundw
      case rel => exact ⟨k + 1, by omega, by go_num, HT.out, HB0.out⟩
      case measure => simp [intOf]; omega
    · clear hgo HB0
      have g3 : ¬(30 : Int) < (na : Int) := by omega
      replace hs := Nat.le_trans hs hsz
      replace hB0 := Nat.le_trans hB0 hsz
      go_wp2
      go_loopw [62] (fun u wr2 => CdRel wr na u wr2) (fun u _ => na - (intOf u).toNat)
      case atStart => exact ⟨0, Nat.zero_le _, rfl, Below.refl _ _⟩
      case round =>
        obtain ⟨j, hj, rfl, hb⟩ := hrel
        replace d0 := kept hb d0
        replace d1 := kept hb d1
        replace k1 := blk hb k1
        replace hN := hN.below (hb.mono hB0)
        replace HB := Lib.hid (HB.out.trans (hb.mono hs))
        have HB0 := Lib.hid hb
        have hsz3 := hb.size
        obtain ⟨r0, r1, q0, q1⟩ := res2 k1
        clear hb
        by_cases hlt2 : j < na
        · have hjl : j < acts.length := by rw [HA.out]; exact hlt2
          obtain ⟨y, hy⟩ : ∃ y, acts[j]? = some y := ⟨_, List.getElem?_eq_getElem hjl⟩
          obtain ⟨b, off, hAa, _, c0, c1, c2, c3, c4, c5⟩ := hN.ra.act hy
          have AE := fun W => activityErr_right W ne y (by rw [← HE.out]; exact hR.ac y (List.mem_of_getElem? hy)) (by omega)
          subst hAa
          obtain ⟨y0, y1, y2, y3, y4, y5⟩ := y
          simp only at c0 c1 c2 c3 c4 c5
          simp only [actV] at AE
          have hbn : Below wr.heap.size wr (wr.alloc (.cells #[.int .i64 y0, .int .i64 y1, .int .i64 y2, .int .i64 y3, .int .i64 y4, .int .i64 y5] 43)) := (Below.refl _ _).alloc (Nat.le_refl _) _
          obtain ⟨e0, e1, e2, e3, e4, e5⟩ := box6 wr 43 (.int .i64 y0) (.int .i64 y1) (.int .i64 y2) (.int .i64 y3) (.int .i64 y4) (.int .i64 y5)
          replace d0 := kept hbn d0
          replace d1 := kept hbn d1
          go_upto_region 16 with (fail)
          generalize wr.alloc (.cells #[.int .i64 y0, .int .i64 y1, .int .i64 y2, .int .i64 y3, .int .i64 y4, .int .i64 y5] 43) = w5 at *
          go_wp2_with (go_at_call 74; refine (AE _).mono ?_; rintro e w6 ⟨rfl, hb1⟩)
          have hbz := hbn.trans (hb1.mono hbn.size)
          replace HB0 := Lib.hid (HB0.out.trans (hbz.mono hsz3))
          clear hbz hb1 hbn
          go_roundw
          case rel => exact ⟨j + 1, by omega, by go_num, HB0.out⟩
          case measure => simp [intOf]; omega
        · go_wp2
          refine bodyPost_ret (v := .tuple #[.agg #[.int .i64 0, .int .i64 0], .int .i64 0]) (by simp [results, Tryz.results50, go_sem, r0, r1]) rfl ⟨rfl, ?_⟩
          exact HB.out.trans (put2_below _ _ (Nat.le_succ _))
end Go.Proofs.YtnnnpijepdjanaaGreat
