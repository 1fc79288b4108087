/- The roots of a square; the time of a run. The time of a run. No run is faster than the fastest one: plain. Times are held against activities. -/
import Derived.Test.YtnnnpijepdjanaaM2
import Derived.Deep.CutRange
import Derived.Test.YtnnnpijepdjanaaE2
namespace Go.Proofs.Ytnnnpijepdjanaa
open Go.RowKit

section
variable {P : Program} {ops : Array Oper} {md : Region.Mode} {S : World → Prop} {ts : List Nat} {Q : Exit → Go.Act → World → Prop}
theorem wpE_three {m n i k j : Nat} {listed : Array Bool} {a : Go.Act} {w : World} (hn : m = n + 1) (hr : Region.ready md ops listed = [i, k, j]) (ht : ts.contains i = false) (ht' : ts.contains k = false) (ht'' : ts.contains j = false)
    (h : wpMid P ops (fun a' w' => S w' ∧ wpE P md ops Q S ts n (listed.setIfInBounds i true) a' w') i a w)
    (h' : wpMid P ops (fun a' w' => S w' ∧ wpE P md ops Q S ts n (listed.setIfInBounds k true) a' w') k a w)
    (h'' : wpMid P ops (fun a' w' => S w' ∧ wpE P md ops Q S ts n (listed.setIfInBounds j true) a' w') j a w) : wpE P md ops Q S ts m listed a w := by
  subst hn
  refine wpE_step (by rw [hr]; simp only [List.isEmpty_cons, List.all_cons, List.all_nil, ht, ht', ht'']; rfl) (fun q hq => ?_)
  rw [hr] at hq
  have : q = i ∨ q = k ∨ q = j := by simpa using hq
  rcases this with rfl | rfl | rfl
  · exact h
  · exact h'
  · exact h''
end
open Classical in
/-- the root of a square, rounded down; rounded up -/
noncomputable def rtF (n : Int) : Int := Classical.epsilon (RtIs n)
noncomputable def rtH (n : Int) : Int := if rtF n * rtF n < n then rtF n + 1 else rtF n
theorem rtF_eq {n r : Int} (h : RtIs n r) : rtF n = r := rt_unique (Classical.epsilon_spec ⟨r, h⟩) h
def RootsPost (w : World) (n r hh : Int) (e : Ending) (w' : World) : Prop := e = .returned (.agg #[.int .i64 r, .int .i64 hh]) ∧ RtIs n r ∧ Below w.heap.size w w'
set_option maxRecDepth 100000 in
theorem roots_any (n : Int) (h0 : 0 ≤ n) (h1 : n ≤ 20000000000) (w : World) : Calls Try.prog 49 #[.int .i64 n] w (RootsPost w n (rtF n) (rtH n)) := by
  have RT : ∀ W, Calls Try.prog 74 #[.int .i64 n] W fun e w' => RtIs n (rtF n) ∧ e = .returned (.int .i64 (rtF n)) ∧ W = w' := fun W => (root_any n h0 h1 W).mono fun e w' ⟨⟨r, hr, he⟩, hw⟩ => by
    rw [rtF_eq hr]
    exact ⟨hr, he, hw⟩
  have HH : Hid (rtH n = if rtF n * rtF n < n then rtF n + 1 else rtF n) := rfl
  generalize rtH n = hh at *
  generalize rtF n = r at *
  have k0 : (w.alloc (.cells #[.int .i64 0, .int .i64 0] 54)).heap[w.heap.size]? = some (.cells #[.int .i64 0, .int .i64 0] 54 (0, 0)) := by rw [heapq_alloc, if_pos rfl]
  have hb0 : Below w.heap.size w (w.alloc (.cells #[.int .i64 0, .int .i64 0] 54)) := (Below.refl _ _).alloc (Nat.le_refl _) _
  have hs := hb0.size
  have HB := Lib.hid hb0
  have hx := (Array.getElem?_eq_some_iff.1 k0).1
  clear hb0
  go_enter Try.func49, Try.ntmps49
  go_upto_region 1 with (fail)
  generalize w.alloc (.cells #[.int .i64 0, .int .i64 0] 54) = w0 at *
  go_upto_region 2 with (first | (go_at_call 74; refine (RT _).mono ?_; rintro e w' ⟨hr, rfl, rfl⟩))
  clear RT
  have hb1 : Below w0.heap.size w0 (w0.alloc (.cells #[.int .i64 r, .int .i64 r] 54)) := (Below.refl _ _).alloc (Nat.le_refl _) _
  have k1 : (w0.alloc (.cells #[.int .i64 r, .int .i64 r] 54)).heap[w0.heap.size]? = some (.cells #[.int .i64 r, .int .i64 r] 54 (0, 0)) := by rw [heapq_alloc, if_pos rfl]
  replace k0 := blk hb1 k0
  replace HB := Lib.hid (HB.out.trans (hb1.mono hs))
  obtain ⟨c0, c1, q0, q1⟩ := res2 k1
  obtain ⟨r0, r1, p0, p1⟩ := res2 k0
  have HR := Lib.hid hr
  obtain ⟨a0, a1, a2, a3⟩ := hr
  have m0 : 0 ≤ r * r := Int.mul_nonneg a0 a0
  clear a2 a3 hb1
  have hrn : r * r ≤ 20000000000 := by have := HR.out.2.2.1; omega
  have HK0 := Lib.hid k0
  have HK1 := Lib.hid k1
  clear k0 k1
  generalize w0.alloc (.cells #[.int .i64 r, .int .i64 r] 54) = w1 at *
  by_cases hlt : r * r < n
  · have HE : Hid (hh = r + 1) := by rw [Hid, HH.out, if_pos hlt]
    have hne : w.heap.size ≠ w0.heap.size := by omega
    have k9 : (w1.setCell ⟨w0.heap.size, 1, none⟩ (.int .i64 (r + 1))).heap[w0.heap.size]? = some (.cells #[.int .i64 r, .int .i64 (r + 1)] 54 (0, 0)) := by
      rw [heapq_set, if_pos rfl, HK1.out]
      rfl
    have k8 : (w1.setCell ⟨w0.heap.size, 1, none⟩ (.int .i64 (r + 1))).heap[w.heap.size]? = some (.cells #[.int .i64 0, .int .i64 0] 54 (0, 0)) := by
      rw [heapq_set, if_neg hne, HK0.out]
    have HB9 := Lib.hid (HB.out.setCell (p := ⟨w0.heap.size, 1, none⟩) hs (.int .i64 (r + 1)))
    go_upto_region 4 with (fail)
    clear r0 r1 p0 p1 c0 c1 q0 q1
    generalize w1.setCell ⟨w0.heap.size, 1, none⟩ (.int .i64 (r + 1)) = w2 at *
    obtain ⟨c0, c1, q0, q1⟩ := res2 k9
    obtain ⟨r0, r1, p0, p1⟩ := res2 k8
    clear k8 k9
    go_wp2
    refine bodyPost_ret (v := .agg #[.int .i64 r, .int .i64 (r + 1)]) (by simp [results, Try.results49, go_sem, r0, r1]) rfl ⟨?_, HR.out, ?_⟩
    · rw [HE.out]
    · exact HB9.out.trans (put2_below _ _ (Nat.le_refl _))
  · have HE : Hid (hh = r) := by rw [Hid, HH.out, if_neg hlt]
    go_wp2
    refine bodyPost_ret (v := .agg #[.int .i64 r, .int .i64 r]) (by simp [results, Try.results49, go_sem, r0, r1]) rfl ⟨?_, HR.out, ?_⟩
    · rw [HE.out]
    · exact HB.out.trans (put2_below _ _ (Nat.le_refl _))
end Go.Proofs.Ytnnnpijepdjanaa

namespace Go.Proofs.Ytnnnpijepdjanaa
open Go.RowKit

/-- both roots in memory -/
def RC (wr : World) (n1 n2 r1 h1 r2 h2 : Int) (s11 s12 : Value) (wc : World) : Prop :=
  ∃ a1 a2, s11 = .pointer (some ⟨a1, 0, none⟩) ∧ s12 = .pointer (some ⟨a2, 0, none⟩) ∧ wc.heap[a1]? = some (.cells #[.int .i64 r1, .int .i64 h1] 54 (0, 0)) ∧ wc.heap[a2]? = some (.cells #[.int .i64 r2, .int .i64 h2] 54 (0, 0)) ∧ Below wr.heap.size wr wc ∧ RtIs n1 r1 ∧ RtIs n2 r2
theorem rc_mk {wr W : World} {n1 n2 r1 h1 r2 h2 : Int} {a1 a2 : Nat} (hb : Below wr.heap.size wr W) (k1 : W.heap[a1]? = some (.cells #[.int .i64 0, .int .i64 0] 54 (0, 0))) (k2 : W.heap[a2]? = some (.cells #[.int .i64 0, .int .i64 0] 54 (0, 0))) (hne : a1 ≠ a2) (g1 : wr.heap.size ≤ a1) (g2 : wr.heap.size ≤ a2) (hr1 : RtIs n1 r1) (hr2 : RtIs n2 r2) :
    RC wr n1 n2 r1 h1 r2 h2 (.pointer (some ⟨a1, 0, none⟩)) (.pointer (some ⟨a2, 0, none⟩)) ((((W.setCell ⟨a1, 0, none⟩ (.int .i64 r1)).setCell ⟨a1, 1, none⟩ (.int .i64 h1)).setCell ⟨a2, 0, none⟩ (.int .i64 r2)).setCell ⟨a2, 1, none⟩ (.int .i64 h2)) := by
  refine ⟨a1, a2, rfl, rfl, ?_, ?_, ?_, hr1, hr2⟩
  · rw [heapq_set, if_neg hne, heapq_set, if_neg hne, heapq_set, if_pos rfl, heapq_set, if_pos rfl, k1]
    rfl
  · rw [heapq_set, if_pos rfl, heapq_set, if_pos rfl, heapq_set, if_neg (Ne.symm hne), heapq_set, if_neg (Ne.symm hne), k2]
    rfl
  · exact (((hb.setCell (p := ⟨a1, 0, none⟩) g1 _).setCell (p := ⟨a1, 1, none⟩) g1 _).setCell (p := ⟨a2, 0, none⟩) g2 _).setCell (p := ⟨a2, 1, none⟩) g2 _
/-- a way through a piece, rounded up -/
def cd (way slow : Int) : Int := (way + slow - 1) / slow
noncomputable def tH (pcs : List Pc) (l : List Int) : Nat → Int
  | 0 => 0
  | k + 1 => tH pcs l k + cd (2000 * ((pcs[k]?.map Pc.len).getD 0)) (rtF ((l[k]?).getD 0) + rtF ((l[k + 1]?).getD 0))
/-- no piece is stood on -/
def PosTo (l : List Int) (k : Nat) : Prop := ∀ i, i < k → 1 ≤ rtF ((l[i]?).getD 0) + rtF ((l[i + 1]?).getD 0)
structure TiRel (w0 : World) (pcs : List Pc) (l : List Int) (np z : Nat) (u : Value) (wr : World) : Prop where
  k : ∃ k : Nat, k ≤ np ∧ u = .int .i64 k ∧ ∃ lo : Int, (0 ≤ lo ∧ lo ≤ (k : Int) * 20000000000) ∧ (0 ≤ tH pcs l k ∧ tH pcs l k ≤ (k : Int) * 20000400000) ∧ PosTo l k ∧ wr.heap[z]? = some (.cells #[.int .i64 lo, .int .i64 (tH pcs l k)] 54 (0, 0))
  b : Below z w0 wr
def TiPost (w : World) (pcs : List Pc) (l : List Int) (np : Nat) (e : Ending) (w' : World) : Prop :=
  ((∃ lo : Int, e = .returned (.tuple #[.agg #[.int .i64 lo, .int .i64 (tH pcs l np)], .int .i64 0]) ∧ PosTo l np) ∨ e = .returned (.tuple #[.agg #[.int .i64 0, .int .i64 0], .int .i64 11])) ∧ Below w.heap.size w w'
set_option maxRecDepth 100000 in
set_option maxHeartbeats 8000000 in
theorem TimeOf_any (w : World) (B : Nat) (Ap : Option Addr) (np cp : Nat) (nm : ByteArray) (pcs : List Pc) (h : TrkAt w B Ap np nm pcs) (hB : B ≤ w.heap.size) (Al : Option Addr) (cl : Nat) (l : List Int) (hl : Rd w B Al (intCells l)) (hlR : SqR np l) :
    Calls Try.prog 18 #[trackV nm Ap np cp, .slice Al (np + 1) cl] w (TiPost w pcs l np) := by
  have hn1 : 1 ≤ np := by rw [← h.lp]; exact h.R.l1
  have hn12 : np ≤ 12 := by rw [← h.lp]; exact h.R.l2
  have HL := Lib.hid h.lp
  have HP := Lib.hid h.R.p
  have HLR := Lib.hid hlR
  have OP := fun (W : World) (h : TrkAt W B Ap np nm pcs) (hB : B ≤ W.heap.size) => bkOpen_right W B Ap np cp nm pcs h hB
  have SE := fun (W : World) (h : Rd W B Al (intCells l)) (hB : B ≤ W.heap.size) => squaresErr_right W B nm Ap np cp Al cl l (by omega) h hB hlR
  have hb0 : Below w.heap.size w ((w.alloc (.cells #[.string nm, .slice Ap np cp] 42)).alloc (.cells #[.int .i64 0, .int .i64 0] 54)) := ((Below.refl _ _).alloc (Nat.le_refl _) _).alloc (by simp) _
  have k1 : ((w.alloc (.cells #[.string nm, .slice Ap np cp] 42)).alloc (.cells #[.int .i64 0, .int .i64 0] 54)).heap[w.heap.size]? = some (.cells #[.string nm, .slice Ap np cp] 42 (0, 0)) := by
    rw [heapq_alloc, if_neg (by simp), heapq_alloc, if_pos rfl]
  have k2 : ((w.alloc (.cells #[.string nm, .slice Ap np cp] 42)).alloc (.cells #[.int .i64 0, .int .i64 0] 54)).heap[w.heap.size + 1]? = some (.cells #[.int .i64 0, .int .i64 0] 54 (0, 0)) := by
    rw [heapq_alloc, if_pos (by simp)]
  have hT := h.below (hb0.mono hB)
  have hl0 := hl.below (hb0.mono hB)
  have hB0 := Nat.le_trans hB hb0.size
  have hs := hb0.size
  have HB := Lib.hid hb0
  clear hb0 h hl hlR
  unfold trackV at OP SE ⊢
  go_enter Try.func18, Try.ntmps18
  go_upto_region 1 with (fail)
  generalize ((w.alloc (.cells #[.string nm, .slice Ap np cp] 42)).alloc (.cells #[.int .i64 0, .int .i64 0] 54)) = w0 at *
  obtain ⟨d0, d1⟩ := cells2 k1
  go_upto_region 2 with (go_at_call 47; refine (OP _ hT hB0).mono ?_; rintro e w1 ⟨rfl, hb1⟩)
  have hbA := hb1.alloc hb1.size (.cells #[.string nm, .slice Ap np cp] 97)
  have k4 : (w1.alloc (.cells #[.string nm, .slice Ap np cp] 97)).heap[w1.heap.size]? = some (.cells #[.string nm, .slice Ap np cp] 97 (0, 0)) := by rw [heapq_alloc, if_pos rfl]
  replace k1 := blk hbA k1
  replace k2 := blk hbA k2
  replace hT := hT.below (hbA.mono hB0)
  replace hl0 := hl0.below (hbA.mono hB0)
  replace HB := Lib.hid (HB.out.trans (hbA.mono hs))
  replace hs := Nat.le_trans hs hbA.size
  replace hB0 := Nat.le_trans hB0 hbA.size
  clear hb1 hbA OP d0 d1
  generalize w1.alloc (.cells #[.string nm, .slice Ap np cp] 97) = w2 at *
  generalize w1.heap.size = g at *
  obtain ⟨e0, e1⟩ := cells2 k4
  go_upto_region 3 with (first | (go_at_call 48; refine (SE _ hl0 hB0).mono ?_; rintro e w3 ⟨rfl, hb3⟩; have F2 := bkFirst2 w3) | (go_at_call 40; refine F2.mono ?_; rintro e w' ⟨rfl, rfl⟩))
  have hbA := hb3.alloc hb3.size (.cells #[.int .i64 0, .int .i64 0] 31)
  replace k1 := blk hbA k1
  replace k2 := blk hbA k2
  replace hT := hT.below (hbA.mono hB0)
  replace hl0 := hl0.below (hbA.mono hB0)
  replace HB := Lib.hid (HB.out.trans (hbA.mono hs))
  replace hs := Nat.le_trans hs hbA.size
  replace hB0 := Nat.le_trans hB0 hbA.size
  clear hbA hb3 F2 SE e0 e1 k4
  generalize w3.alloc (.cells #[.int .i64 0, .int .i64 0] 31) = w4 at *
  obtain ⟨d0, d1⟩ := cells2 k1
  have hbZ : Below w4.heap.size w4 (w4.alloc (.cells #[.int .i64 0, .int .i64 0] 54)) := (Below.refl _ _).alloc (Nat.le_refl _) _
  have kz : (w4.alloc (.cells #[.int .i64 0, .int .i64 0] 54)).heap[w4.heap.size]? = some (.cells #[.int .i64 0, .int .i64 0] 54 (0, 0)) := by rw [heapq_alloc, if_pos rfl]
  go_upto_region 6 with (fail)
  have h2z : w.heap.size + 1 < w4.heap.size := (Array.getElem?_eq_some_iff.1 k2).1
  have h1z : w.heap.size < w4.heap.size := (Array.getElem?_eq_some_iff.1 k1).1
  replace k1 := blk hbZ k1
  replace k2 := blk hbZ k2
  replace hT := hT.below (hbZ.mono hB0)
  replace hl0 := hl0.below (hbZ.mono hB0)
  replace HB := Lib.hid (HB.out.trans (hbZ.mono hs))
  have hs5 := Nat.le_trans hs hbZ.size
  clear hbZ d0 d1
  generalize w4.alloc (.cells #[.int .i64 0, .int .i64 0] 54) = w5 at *
  generalize w4.heap.size = z at *
  obtain ⟨d0, d1⟩ := cells2 k1
  have hz5 := (Array.getElem?_eq_some_iff.1 kz).1
  go_wp2
  clear d0 d1
  go_loopw [34] (fun u wr => TiRel w5 pcs l np z u wr) (fun u _ => np - (intOf u).toNat)
  case atStart => exact ⟨⟨0, Nat.zero_le _, rfl, 0, by simp, by simp [tH], fun i hi => by omega, kz⟩, Below.refl _ _⟩
  case round =>
    obtain ⟨⟨k, hk, rfl, lo, hlo, hhi, hpos, hzr⟩, hb⟩ := hrel
    have HPOS := Lib.hid hpos
    clear hpos
    have HBR := Lib.hid hb
    have hzw := (Array.getElem?_eq_some_iff.1 hzr).1
    have hTR := hT.below (hb.mono hB0)
    have hlR := hl0.below (hb.mono hB0)
    have kR2 : wr.heap[w.heap.size + 1]? = _ := (hb.block _ h2z).trans k2
    clear hb
    by_cases hlt : k < np
    · obtain ⟨p, hp⟩ : ∃ p, pcs[k]? = some p := ⟨_, List.getElem?_eq_getElem (by rw [HL.out]; exact hlt)⟩
      obtain ⟨n1, hn1⟩ : ∃ n, l[k]? = some n := ⟨_, List.getElem?_eq_getElem (by rw [HLR.out.1]; omega)⟩
      obtain ⟨n2, hn2⟩ : ∃ n, l[k + 1]? = some n := ⟨_, List.getElem?_eq_getElem (by rw [HLR.out.1]; omega)⟩
      obtain ⟨bp, op, hAp, _, c0, c1, c2, c3⟩ := hTR.rp.pc hp
      obtain ⟨bl, ol, hAl, _, e1⟩ := hlR k (.int .i64 n1) (by simp [intCells, hn1])
      obtain ⟨bl', ol', hAl', _, e2⟩ := hlR (k + 1) (.int .i64 n2) (by simp [intCells, hn2])
      subst hAp hAl
      cases hAl'
      have hb1 := HLR.out.2 n1 (List.mem_of_getElem? hn1)
      have hb2 := HLR.out.2 n2 (List.mem_of_getElem? hn2)
      have hpR := (HP.out p (List.mem_of_getElem? hp)).1
      have RT1 := fun W => roots_any n1 hb1.1 hb1.2 W
      have RT2 := fun W => roots_any n2 hb2.1 hb2.2 W
      have HTH : Hid (tH pcs l (k + 1) = tH pcs l k + cd (2000 * p.len) (rtF n1 + rtF n2)) := by
        rw [Hid, tH, hp, hn1, hn2]
        rfl
      have HSUM : Hid (rtF ((l[k]?).getD 0) + rtF ((l[k + 1]?).getD 0) = rtF n1 + rtF n2) := by
        rw [Hid, hn1, hn2]
        rfl
      obtain ⟨xl, xg, xm, xv⟩ := p
      simp only at c0 c1 c2 c3 hpR HTH
      have H1 : Hid (rtH n1 = if rtF n1 * rtF n1 < n1 then rtF n1 + 1 else rtF n1) := rfl
      have H2 : Hid (rtH n2 = if rtF n2 * rtF n2 < n2 then rtF n2 + 1 else rtF n2) := rfl
      generalize hTK : tH pcs l (k + 1) = T1 at *
      have HTK := Lib.hid hTK
      clear hTK
      generalize tH pcs l k = T0 at *
      generalize rtH n1 = h1 at *
      generalize rtF n1 = r1 at *
      generalize rtH n2 = h2 at *
      generalize rtF n2 = r2 at *
      clear hp hn1 hn2 hTR hlR
      have kp : (wr.alloc (.cells #[.int .i64 xl, .int .i64 xg, .int .i64 xm, .bool xv] 110)).heap[wr.heap.size]? = some (.cells #[.int .i64 xl, .int .i64 xg, .int .i64 xm, .bool xv] 110 (0, 0)) := by rw [heapq_alloc, if_pos rfl]
      have hbp : Below wr.heap.size wr (wr.alloc (.cells #[.int .i64 xl, .int .i64 xg, .int .i64 xm, .bool xv] 110)) := (Below.refl _ _).alloc (Nat.le_refl _) _
      have hk12 : k ≤ 12 := by omega
      have hkn : k < np + 1 := by omega
      have hkn1 : k + 1 < np + 1 := by omega
      go_upto_region 9 with (fail)
      replace e1 := kept hbp e1
      replace e2 := kept hbp e2
      replace hzr := blk hbp hzr
      replace kR2 := blk hbp kR2
      replace HBR := Lib.hid (HBR.out.trans (hbp.mono (Nat.le_of_lt hzw)))
      replace hzw := Nat.lt_of_lt_of_le hzw hbp.size
      clear c0 c1 c2 c3 hbp
      generalize wr.heap.size = pz at *
      generalize wr.alloc (.cells #[.int .i64 xl, .int .i64 xg, .int .i64 xm, .bool xv] 110) = wr at *
      have x1 := fun x : Xt wr => x.cell e1
      have x2 := fun x : Xt wr => x.cell e2
      go_cut [11, 12] from 39 to 49 (fun s11 s12 wc => RC wr n1 n2 r1 h1 r2 h2 s11 s12 wc)
      case first =>
        refine wp_region_eager [13, 14] (fun w' => ∃ x : Xt wr, w' = x.1) (by kernel_rfl) ⟨⟨wr.drew, (Below.refl _ _).drew⟩, rfl⟩ ?_
        refine wpE_reads7 [0, 1, 2, 3, 5, 6, 7, 8, 9] 6 rfl (by kernel_rfl) ?_
        simp only [opsAt_nil, opsAt_cons, consOpt_some, List.getElem?_toArray, List.getElem?_cons_zero, List.getElem?_cons_succ]
        repeat (go_big_quiet_step (fail))
        refine wpQuiet_nil ?_
        have hb0 : Below wr.heap.size wr wr.drew := (Below.refl _ _).drew
        show wpE _ _ _ _ _ _ _ _ _ wr.drew
        generalize wr.drew = v0 at *
        clear x1 x2 e1 e2 kp hzr kR2 k1 k2 kz
        refine wpE_three (i := 4) (k := 11) (j := 12) rfl (by kernel_rfl) rfl rfl rfl ?_ ?_ ?_
        · unfold wpMid
          simp only [opsAt_nil, opsAt_cons, consOpt_some, List.getElem?_toArray, List.getElem?_cons_zero, List.getElem?_cons_succ]
          go_wp2_with (go_at_call 49; refine (RT1 _).mono ?_; rintro e v1 ⟨rfl, hrt, hbt⟩)
          have R1 := Lib.hid hrt
          have hb1 := hb0.trans (hbt.mono hb0.size)
          clear hbt hrt hb0
          refine onlyNormal_mk ⟨⟨⟨_, hb1⟩, rfl⟩, ?_⟩
          refine wpE_three (i := 10) (k := 11) (j := 12) rfl (by kernel_rfl) rfl rfl rfl ?_ ?_ ?_
          · unfold wpMid
            simp only [opsAt_nil, opsAt_cons, consOpt_some, List.getElem?_toArray, List.getElem?_cons_zero, List.getElem?_cons_succ]
            go_wp2_with (go_at_call 49; refine (RT2 _).mono ?_; rintro e v2 ⟨rfl, hrt, hbt⟩)
            have R2 := Lib.hid hrt
            have hb2 := hb1.trans (hbt.mono hb1.size)
            clear hbt hrt hb1
            refine onlyNormal_mk ⟨⟨⟨_, hb2⟩, rfl⟩, ?_⟩
            refine wpE_two (i := 11) (k := 12) rfl (by kernel_rfl) rfl rfl ?_ ?_
            · unfold wpMid
              simp only [opsAt_nil, opsAt_cons, consOpt_some, List.getElem?_toArray, List.getElem?_cons_zero, List.getElem?_cons_succ]
              go_wp2
              have k11 : (v2.alloc (.cells #[.int .i64 0, .int .i64 0] 54)).heap[v2.heap.size]? = some (.cells #[.int .i64 0, .int .i64 0] 54 (0, 0)) := by rw [heapq_alloc, if_pos rfl]
              have hbt : Below v2.heap.size v2 (v2.alloc (.cells #[.int .i64 0, .int .i64 0] 54)) := (Below.refl _ _).alloc (Nat.le_refl _) _
              have hb3 := hb2.trans (hbt.mono hb2.size)
              have hg11 : wr.heap.size ≤ v2.heap.size := hb2.size
              clear hbt hb2
              generalize v2.alloc (.cells #[.int .i64 0, .int .i64 0] 54) = v3 at *
              generalize v2.heap.size = a11 at *
              refine onlyNormal_mk ⟨⟨⟨_, hb3⟩, rfl⟩, ?_⟩
              refine wpE_one (i := 12) rfl (by kernel_rfl) rfl ?_
              unfold wpMid
              simp only [opsAt_nil, opsAt_cons, consOpt_some, List.getElem?_toArray, List.getElem?_cons_zero, List.getElem?_cons_succ]
              go_wp2
              have k12 : (v3.alloc (.cells #[.int .i64 0, .int .i64 0] 54)).heap[v3.heap.size]? = some (.cells #[.int .i64 0, .int .i64 0] 54 (0, 0)) := by rw [heapq_alloc, if_pos rfl]
              have hbt : Below v3.heap.size v3 (v3.alloc (.cells #[.int .i64 0, .int .i64 0] 54)) := (Below.refl _ _).alloc (Nat.le_refl _) _
              have hb4 := hb3.trans (hbt.mono hb3.size)
              have hg12 : wr.heap.size ≤ v3.heap.size := hb3.size
              have hne : a11 ≠ v3.heap.size := by have := (Array.getElem?_eq_some_iff.1 k11).1; omega
              replace k11 := blk hbt k11
              clear hbt hb3
              generalize v3.alloc (.cells #[.int .i64 0, .int .i64 0] 54) = v4 at *
              generalize v3.heap.size = a12 at *
              refine onlyNormal_mk ⟨⟨⟨_, hb4⟩, rfl⟩, ?_⟩
              refine wpE_tail rfl (by kernel_rfl) ?_
              simp only [opsAt_nil, opsAt_cons, consOpt_some, List.getElem?_toArray, List.getElem?_cons_zero, List.getElem?_cons_succ]
              obtain ⟨t0, t1, q0, q1⟩ := res2 k11
              obtain ⟨u0, u1, p0, p1⟩ := res2 k12
              have HM := Lib.hid (rc_mk (h1 := h1) (h2 := h2) hb4 k11 k12 hne hg11 hg12 R1.out R2.out)
              clear k11 k12 hb4
              go_wp2
              refine onlyNormal_mk ?_
              go_wp2_with fail
              go_meet
              exact HM.out
            · unfold wpMid
              simp only [opsAt_nil, opsAt_cons, consOpt_some, List.getElem?_toArray, List.getElem?_cons_zero, List.getElem?_cons_succ]
              go_wp2
              have k12 : (v2.alloc (.cells #[.int .i64 0, .int .i64 0] 54)).heap[v2.heap.size]? = some (.cells #[.int .i64 0, .int .i64 0] 54 (0, 0)) := by rw [heapq_alloc, if_pos rfl]
              have hbt : Below v2.heap.size v2 (v2.alloc (.cells #[.int .i64 0, .int .i64 0] 54)) := (Below.refl _ _).alloc (Nat.le_refl _) _
              have hb3 := hb2.trans (hbt.mono hb2.size)
              have hg12 : wr.heap.size ≤ v2.heap.size := hb2.size
              clear hbt hb2
              generalize v2.alloc (.cells #[.int .i64 0, .int .i64 0] 54) = v3 at *
              generalize v2.heap.size = a12 at *
              refine onlyNormal_mk ⟨⟨⟨_, hb3⟩, rfl⟩, ?_⟩
              refine wpE_one (i := 11) rfl (by kernel_rfl) rfl ?_
              unfold wpMid
              simp only [opsAt_nil, opsAt_cons, consOpt_some, List.getElem?_toArray, List.getElem?_cons_zero, List.getElem?_cons_succ]
              go_wp2
              have k11 : (v3.alloc (.cells #[.int .i64 0, .int .i64 0] 54)).heap[v3.heap.size]? = some (.cells #[.int .i64 0, .int .i64 0] 54 (0, 0)) := by rw [heapq_alloc, if_pos rfl]
              have hbt : Below v3.heap.size v3 (v3.alloc (.cells #[.int .i64 0, .int .i64 0] 54)) := (Below.refl _ _).alloc (Nat.le_refl _) _
              have hb4 := hb3.trans (hbt.mono hb3.size)
              have hg11 : wr.heap.size ≤ v3.heap.size := hb3.size
              have hne : v3.heap.size ≠ a12 := by have := (Array.getElem?_eq_some_iff.1 k12).1; omega
              replace k12 := blk hbt k12
              clear hbt hb3
              generalize v3.alloc (.cells #[.int .i64 0, .int .i64 0] 54) = v4 at *
              generalize v3.heap.size = a11 at *
              refine onlyNormal_mk ⟨⟨⟨_, hb4⟩, rfl⟩, ?_⟩
              refine wpE_tail rfl (by kernel_rfl) ?_
              simp only [opsAt_nil, opsAt_cons, consOpt_some, List.getElem?_toArray, List.getElem?_cons_zero, List.getElem?_cons_succ]
              obtain ⟨t0, t1, q0, q1⟩ := res2 k11
              obtain ⟨u0, u1, p0, p1⟩ := res2 k12
              have HM := Lib.hid (rc_mk (h1 := h1) (h2 := h2) hb4 k11 k12 hne hg11 hg12 R1.out R2.out)
              clear k11 k12 hb4
              go_wp2
              refine onlyNormal_mk ?_
              go_wp2_with fail
              go_meet
              exact HM.out
          · unfold wpMid
            simp only [opsAt_nil, opsAt_cons, consOpt_some, List.getElem?_toArray, List.getElem?_cons_zero, List.getElem?_cons_succ]
            go_wp2
            have k11 : (v1.alloc (.cells #[.int .i64 0, .int .i64 0] 54)).heap[v1.heap.size]? = some (.cells #[.int .i64 0, .int .i64 0] 54 (0, 0)) := by rw [heapq_alloc, if_pos rfl]
            have hbt : Below v1.heap.size v1 (v1.alloc (.cells #[.int .i64 0, .int .i64 0] 54)) := (Below.refl _ _).alloc (Nat.le_refl _) _
            have hb2 := hb1.trans (hbt.mono hb1.size)
            have hg11 : wr.heap.size ≤ v1.heap.size := hb1.size
            clear hbt hb1
            generalize v1.alloc (.cells #[.int .i64 0, .int .i64 0] 54) = v2 at *
            generalize v1.heap.size = a11 at *
            refine onlyNormal_mk ⟨⟨⟨_, hb2⟩, rfl⟩, ?_⟩
            refine wpE_two (i := 10) (k := 12) rfl (by kernel_rfl) rfl rfl ?_ ?_
            · unfold wpMid
              simp only [opsAt_nil, opsAt_cons, consOpt_some, List.getElem?_toArray, List.getElem?_cons_zero, List.getElem?_cons_succ]
              go_wp2_with (go_at_call 49; refine (RT2 _).mono ?_; rintro e v3 ⟨rfl, hrt, hbt⟩)
              have R2 := Lib.hid hrt
              have hb3 := hb2.trans (hbt.mono hb2.size)
              replace k11 := blk hbt k11
              clear hbt hrt hb2
              refine onlyNormal_mk ⟨⟨⟨_, hb3⟩, rfl⟩, ?_⟩
              refine wpE_one (i := 12) rfl (by kernel_rfl) rfl ?_
              unfold wpMid
              simp only [opsAt_nil, opsAt_cons, consOpt_some, List.getElem?_toArray, List.getElem?_cons_zero, List.getElem?_cons_succ]
              go_wp2
              have k12 : (v3.alloc (.cells #[.int .i64 0, .int .i64 0] 54)).heap[v3.heap.size]? = some (.cells #[.int .i64 0, .int .i64 0] 54 (0, 0)) := by rw [heapq_alloc, if_pos rfl]
              have hbt : Below v3.heap.size v3 (v3.alloc (.cells #[.int .i64 0, .int .i64 0] 54)) := (Below.refl _ _).alloc (Nat.le_refl _) _
              have hb4 := hb3.trans (hbt.mono hb3.size)
              have hg12 : wr.heap.size ≤ v3.heap.size := hb3.size
              have hne : a11 ≠ v3.heap.size := by have := (Array.getElem?_eq_some_iff.1 k11).1; omega
              replace k11 := blk hbt k11
              clear hbt hb3
              generalize v3.alloc (.cells #[.int .i64 0, .int .i64 0] 54) = v4 at *
              generalize v3.heap.size = a12 at *
              refine onlyNormal_mk ⟨⟨⟨_, hb4⟩, rfl⟩, ?_⟩
              refine wpE_tail rfl (by kernel_rfl) ?_
              simp only [opsAt_nil, opsAt_cons, consOpt_some, List.getElem?_toArray, List.getElem?_cons_zero, List.getElem?_cons_succ]
              obtain ⟨t0, t1, q0, q1⟩ := res2 k11
              obtain ⟨u0, u1, p0, p1⟩ := res2 k12
              have HM := Lib.hid (rc_mk (h1 := h1) (h2 := h2) hb4 k11 k12 hne hg11 hg12 R1.out R2.out)
              clear k11 k12 hb4
              go_wp2
              refine onlyNormal_mk ?_
              go_wp2_with fail
              go_meet
              exact HM.out
            · unfold wpMid
              simp only [opsAt_nil, opsAt_cons, consOpt_some, List.getElem?_toArray, List.getElem?_cons_zero, List.getElem?_cons_succ]
              go_wp2
              have k12 : (v2.alloc (.cells #[.int .i64 0, .int .i64 0] 54)).heap[v2.heap.size]? = some (.cells #[.int .i64 0, .int .i64 0] 54 (0, 0)) := by rw [heapq_alloc, if_pos rfl]
              have hbt : Below v2.heap.size v2 (v2.alloc (.cells #[.int .i64 0, .int .i64 0] 54)) := (Below.refl _ _).alloc (Nat.le_refl _) _
              have hb3 := hb2.trans (hbt.mono hb2.size)
              have hg12 : wr.heap.size ≤ v2.heap.size := hb2.size
              have hne : a11 ≠ v2.heap.size := by have := (Array.getElem?_eq_some_iff.1 k11).1; omega
              replace k11 := blk hbt k11
              clear hbt hb2
              generalize v2.alloc (.cells #[.int .i64 0, .int .i64 0] 54) = v3 at *
              generalize v2.heap.size = a12 at *
              refine onlyNormal_mk ⟨⟨⟨_, hb3⟩, rfl⟩, ?_⟩
              refine wpE_one (i := 10) rfl (by kernel_rfl) rfl ?_
              unfold wpMid
              simp only [opsAt_nil, opsAt_cons, consOpt_some, List.getElem?_toArray, List.getElem?_cons_zero, List.getElem?_cons_succ]
              go_wp2_with (go_at_call 49; refine (RT2 _).mono ?_; rintro e v4 ⟨rfl, hrt, hbt⟩)
              have R2 := Lib.hid hrt
              have hb4 := hb3.trans (hbt.mono hb3.size)
              replace k11 := blk hbt k11
              replace k12 := blk hbt k12
              clear hbt hrt hb3
              refine onlyNormal_mk ⟨⟨⟨_, hb4⟩, rfl⟩, ?_⟩
              refine wpE_tail rfl (by kernel_rfl) ?_
              simp only [opsAt_nil, opsAt_cons, consOpt_some, List.getElem?_toArray, List.getElem?_cons_zero, List.getElem?_cons_succ]
              obtain ⟨t0, t1, q0, q1⟩ := res2 k11
              obtain ⟨u0, u1, p0, p1⟩ := res2 k12
              have HM := Lib.hid (rc_mk (h1 := h1) (h2 := h2) hb4 k11 k12 hne hg11 hg12 R1.out R2.out)
              clear k11 k12 hb4
              go_wp2
              refine onlyNormal_mk ?_
              go_wp2_with fail
              go_meet
              exact HM.out
          · unfold wpMid
            simp only [opsAt_nil, opsAt_cons, consOpt_some, List.getElem?_toArray, List.getElem?_cons_zero, List.getElem?_cons_succ]
            go_wp2
            have k12 : (v1.alloc (.cells #[.int .i64 0, .int .i64 0] 54)).heap[v1.heap.size]? = some (.cells #[.int .i64 0, .int .i64 0] 54 (0, 0)) := by rw [heapq_alloc, if_pos rfl]
            have hbt : Below v1.heap.size v1 (v1.alloc (.cells #[.int .i64 0, .int .i64 0] 54)) := (Below.refl _ _).alloc (Nat.le_refl _) _
            have hb2 := hb1.trans (hbt.mono hb1.size)
            have hg12 : wr.heap.size ≤ v1.heap.size := hb1.size
            clear hbt hb1
            generalize v1.alloc (.cells #[.int .i64 0, .int .i64 0] 54) = v2 at *
            generalize v1.heap.size = a12 at *
            refine onlyNormal_mk ⟨⟨⟨_, hb2⟩, rfl⟩, ?_⟩
            refine wpE_two (i := 10) (k := 11) rfl (by kernel_rfl) rfl rfl ?_ ?_
            · unfold wpMid
              simp only [opsAt_nil, opsAt_cons, consOpt_some, List.getElem?_toArray, List.getElem?_cons_zero, List.getElem?_cons_succ]
              go_wp2_with (go_at_call 49; refine (RT2 _).mono ?_; rintro e v3 ⟨rfl, hrt, hbt⟩)
              have R2 := Lib.hid hrt
              have hb3 := hb2.trans (hbt.mono hb2.size)
              replace k12 := blk hbt k12
              clear hbt hrt hb2
              refine onlyNormal_mk ⟨⟨⟨_, hb3⟩, rfl⟩, ?_⟩
              refine wpE_one (i := 11) rfl (by kernel_rfl) rfl ?_
              unfold wpMid
              simp only [opsAt_nil, opsAt_cons, consOpt_some, List.getElem?_toArray, List.getElem?_cons_zero, List.getElem?_cons_succ]
              go_wp2
              have k11 : (v3.alloc (.cells #[.int .i64 0, .int .i64 0] 54)).heap[v3.heap.size]? = some (.cells #[.int .i64 0, .int .i64 0] 54 (0, 0)) := by rw [heapq_alloc, if_pos rfl]
              have hbt : Below v3.heap.size v3 (v3.alloc (.cells #[.int .i64 0, .int .i64 0] 54)) := (Below.refl _ _).alloc (Nat.le_refl _) _
              have hb4 := hb3.trans (hbt.mono hb3.size)
              have hg11 : wr.heap.size ≤ v3.heap.size := hb3.size
              have hne : v3.heap.size ≠ a12 := by have := (Array.getElem?_eq_some_iff.1 k12).1; omega
              replace k12 := blk hbt k12
              clear hbt hb3
              generalize v3.alloc (.cells #[.int .i64 0, .int .i64 0] 54) = v4 at *
              generalize v3.heap.size = a11 at *
              refine onlyNormal_mk ⟨⟨⟨_, hb4⟩, rfl⟩, ?_⟩
              refine wpE_tail rfl (by kernel_rfl) ?_
              simp only [opsAt_nil, opsAt_cons, consOpt_some, List.getElem?_toArray, List.getElem?_cons_zero, List.getElem?_cons_succ]
              obtain ⟨t0, t1, q0, q1⟩ := res2 k11
              obtain ⟨u0, u1, p0, p1⟩ := res2 k12
              have HM := Lib.hid (rc_mk (h1 := h1) (h2 := h2) hb4 k11 k12 hne hg11 hg12 R1.out R2.out)
              clear k11 k12 hb4
              go_wp2
              refine onlyNormal_mk ?_
              go_wp2_with fail
              go_meet
              exact HM.out
            · unfold wpMid
              simp only [opsAt_nil, opsAt_cons, consOpt_some, List.getElem?_toArray, List.getElem?_cons_zero, List.getElem?_cons_succ]
              go_wp2
              have k11 : (v2.alloc (.cells #[.int .i64 0, .int .i64 0] 54)).heap[v2.heap.size]? = some (.cells #[.int .i64 0, .int .i64 0] 54 (0, 0)) := by rw [heapq_alloc, if_pos rfl]
              have hbt : Below v2.heap.size v2 (v2.alloc (.cells #[.int .i64 0, .int .i64 0] 54)) := (Below.refl _ _).alloc (Nat.le_refl _) _
              have hb3 := hb2.trans (hbt.mono hb2.size)
              have hg11 : wr.heap.size ≤ v2.heap.size := hb2.size
              have hne : v2.heap.size ≠ a12 := by have := (Array.getElem?_eq_some_iff.1 k12).1; omega
              replace k12 := blk hbt k12
              clear hbt hb2
              generalize v2.alloc (.cells #[.int .i64 0, .int .i64 0] 54) = v3 at *
              generalize v2.heap.size = a11 at *
              refine onlyNormal_mk ⟨⟨⟨_, hb3⟩, rfl⟩, ?_⟩
              refine wpE_one (i := 10) rfl (by kernel_rfl) rfl ?_
              unfold wpMid
              simp only [opsAt_nil, opsAt_cons, consOpt_some, List.getElem?_toArray, List.getElem?_cons_zero, List.getElem?_cons_succ]
              go_wp2_with (go_at_call 49; refine (RT2 _).mono ?_; rintro e v4 ⟨rfl, hrt, hbt⟩)
              have R2 := Lib.hid hrt
              have hb4 := hb3.trans (hbt.mono hb3.size)
              replace k12 := blk hbt k12
              replace k11 := blk hbt k11
              clear hbt hrt hb3
              refine onlyNormal_mk ⟨⟨⟨_, hb4⟩, rfl⟩, ?_⟩
              refine wpE_tail rfl (by kernel_rfl) ?_
              simp only [opsAt_nil, opsAt_cons, consOpt_some, List.getElem?_toArray, List.getElem?_cons_zero, List.getElem?_cons_succ]
              obtain ⟨t0, t1, q0, q1⟩ := res2 k11
              obtain ⟨u0, u1, p0, p1⟩ := res2 k12
              have HM := Lib.hid (rc_mk (h1 := h1) (h2 := h2) hb4 k11 k12 hne hg11 hg12 R1.out R2.out)
              clear k11 k12 hb4
              go_wp2
              refine onlyNormal_mk ?_
              go_wp2_with fail
              go_meet
              exact HM.out
        · unfold wpMid
          simp only [opsAt_nil, opsAt_cons, consOpt_some, List.getElem?_toArray, List.getElem?_cons_zero, List.getElem?_cons_succ]
          go_wp2
          have k11 : (v0.alloc (.cells #[.int .i64 0, .int .i64 0] 54)).heap[v0.heap.size]? = some (.cells #[.int .i64 0, .int .i64 0] 54 (0, 0)) := by rw [heapq_alloc, if_pos rfl]
          have hbt : Below v0.heap.size v0 (v0.alloc (.cells #[.int .i64 0, .int .i64 0] 54)) := (Below.refl _ _).alloc (Nat.le_refl _) _
          have hb1 := hb0.trans (hbt.mono hb0.size)
          have hg11 : wr.heap.size ≤ v0.heap.size := hb0.size
          clear hbt hb0
          generalize v0.alloc (.cells #[.int .i64 0, .int .i64 0] 54) = v1 at *
          generalize v0.heap.size = a11 at *
          refine onlyNormal_mk ⟨⟨⟨_, hb1⟩, rfl⟩, ?_⟩
          refine wpE_two (i := 4) (k := 12) rfl (by kernel_rfl) rfl rfl ?_ ?_
          · unfold wpMid
            simp only [opsAt_nil, opsAt_cons, consOpt_some, List.getElem?_toArray, List.getElem?_cons_zero, List.getElem?_cons_succ]
            go_wp2_with (go_at_call 49; refine (RT1 _).mono ?_; rintro e v2 ⟨rfl, hrt, hbt⟩)
            have R1 := Lib.hid hrt
            have hb2 := hb1.trans (hbt.mono hb1.size)
            replace k11 := blk hbt k11
            clear hbt hrt hb1
            refine onlyNormal_mk ⟨⟨⟨_, hb2⟩, rfl⟩, ?_⟩
            refine wpE_two (i := 10) (k := 12) rfl (by kernel_rfl) rfl rfl ?_ ?_
            · unfold wpMid
              simp only [opsAt_nil, opsAt_cons, consOpt_some, List.getElem?_toArray, List.getElem?_cons_zero, List.getElem?_cons_succ]
              go_wp2_with (go_at_call 49; refine (RT2 _).mono ?_; rintro e v3 ⟨rfl, hrt, hbt⟩)
              have R2 := Lib.hid hrt
              have hb3 := hb2.trans (hbt.mono hb2.size)
              replace k11 := blk hbt k11
              clear hbt hrt hb2
              refine onlyNormal_mk ⟨⟨⟨_, hb3⟩, rfl⟩, ?_⟩
              refine wpE_one (i := 12) rfl (by kernel_rfl) rfl ?_
              unfold wpMid
              simp only [opsAt_nil, opsAt_cons, consOpt_some, List.getElem?_toArray, List.getElem?_cons_zero, List.getElem?_cons_succ]
              go_wp2
              have k12 : (v3.alloc (.cells #[.int .i64 0, .int .i64 0] 54)).heap[v3.heap.size]? = some (.cells #[.int .i64 0, .int .i64 0] 54 (0, 0)) := by rw [heapq_alloc, if_pos rfl]
              have hbt : Below v3.heap.size v3 (v3.alloc (.cells #[.int .i64 0, .int .i64 0] 54)) := (Below.refl _ _).alloc (Nat.le_refl _) _
              have hb4 := hb3.trans (hbt.mono hb3.size)
              have hg12 : wr.heap.size ≤ v3.heap.size := hb3.size
              have hne : a11 ≠ v3.heap.size := by have := (Array.getElem?_eq_some_iff.1 k11).1; omega
              replace k11 := blk hbt k11
              clear hbt hb3
              generalize v3.alloc (.cells #[.int .i64 0, .int .i64 0] 54) = v4 at *
              generalize v3.heap.size = a12 at *
              refine onlyNormal_mk ⟨⟨⟨_, hb4⟩, rfl⟩, ?_⟩
              refine wpE_tail rfl (by kernel_rfl) ?_
              simp only [opsAt_nil, opsAt_cons, consOpt_some, List.getElem?_toArray, List.getElem?_cons_zero, List.getElem?_cons_succ]
              obtain ⟨t0, t1, q0, q1⟩ := res2 k11
              obtain ⟨u0, u1, p0, p1⟩ := res2 k12
              have HM := Lib.hid (rc_mk (h1 := h1) (h2 := h2) hb4 k11 k12 hne hg11 hg12 R1.out R2.out)
              clear k11 k12 hb4
              go_wp2
              refine onlyNormal_mk ?_
              go_wp2_with fail
              go_meet
              exact HM.out
            · unfold wpMid
              simp only [opsAt_nil, opsAt_cons, consOpt_some, List.getElem?_toArray, List.getElem?_cons_zero, List.getElem?_cons_succ]
              go_wp2
              have k12 : (v2.alloc (.cells #[.int .i64 0, .int .i64 0] 54)).heap[v2.heap.size]? = some (.cells #[.int .i64 0, .int .i64 0] 54 (0, 0)) := by rw [heapq_alloc, if_pos rfl]
              have hbt : Below v2.heap.size v2 (v2.alloc (.cells #[.int .i64 0, .int .i64 0] 54)) := (Below.refl _ _).alloc (Nat.le_refl _) _
              have hb3 := hb2.trans (hbt.mono hb2.size)
              have hg12 : wr.heap.size ≤ v2.heap.size := hb2.size
              have hne : a11 ≠ v2.heap.size := by have := (Array.getElem?_eq_some_iff.1 k11).1; omega
              replace k11 := blk hbt k11
              clear hbt hb2
              generalize v2.alloc (.cells #[.int .i64 0, .int .i64 0] 54) = v3 at *
              generalize v2.heap.size = a12 at *
              refine onlyNormal_mk ⟨⟨⟨_, hb3⟩, rfl⟩, ?_⟩
              refine wpE_one (i := 10) rfl (by kernel_rfl) rfl ?_
              unfold wpMid
              simp only [opsAt_nil, opsAt_cons, consOpt_some, List.getElem?_toArray, List.getElem?_cons_zero, List.getElem?_cons_succ]
              go_wp2_with (go_at_call 49; refine (RT2 _).mono ?_; rintro e v4 ⟨rfl, hrt, hbt⟩)
              have R2 := Lib.hid hrt
              have hb4 := hb3.trans (hbt.mono hb3.size)
              replace k11 := blk hbt k11
              replace k12 := blk hbt k12
              clear hbt hrt hb3
              refine onlyNormal_mk ⟨⟨⟨_, hb4⟩, rfl⟩, ?_⟩
              refine wpE_tail rfl (by kernel_rfl) ?_
              simp only [opsAt_nil, opsAt_cons, consOpt_some, List.getElem?_toArray, List.getElem?_cons_zero, List.getElem?_cons_succ]
              obtain ⟨t0, t1, q0, q1⟩ := res2 k11
              obtain ⟨u0, u1, p0, p1⟩ := res2 k12
              have HM := Lib.hid (rc_mk (h1 := h1) (h2 := h2) hb4 k11 k12 hne hg11 hg12 R1.out R2.out)
              clear k11 k12 hb4
              go_wp2
              refine onlyNormal_mk ?_
              go_wp2_with fail
              go_meet
              exact HM.out
          · unfold wpMid
            simp only [opsAt_nil, opsAt_cons, consOpt_some, List.getElem?_toArray, List.getElem?_cons_zero, List.getElem?_cons_succ]
            go_wp2
            have k12 : (v1.alloc (.cells #[.int .i64 0, .int .i64 0] 54)).heap[v1.heap.size]? = some (.cells #[.int .i64 0, .int .i64 0] 54 (0, 0)) := by rw [heapq_alloc, if_pos rfl]
            have hbt : Below v1.heap.size v1 (v1.alloc (.cells #[.int .i64 0, .int .i64 0] 54)) := (Below.refl _ _).alloc (Nat.le_refl _) _
            have hb2 := hb1.trans (hbt.mono hb1.size)
            have hg12 : wr.heap.size ≤ v1.heap.size := hb1.size
            have hne : a11 ≠ v1.heap.size := by have := (Array.getElem?_eq_some_iff.1 k11).1; omega
            replace k11 := blk hbt k11
            clear hbt hb1
            generalize v1.alloc (.cells #[.int .i64 0, .int .i64 0] 54) = v2 at *
            generalize v1.heap.size = a12 at *
            refine onlyNormal_mk ⟨⟨⟨_, hb2⟩, rfl⟩, ?_⟩
            refine wpE_one (i := 4) rfl (by kernel_rfl) rfl ?_
            unfold wpMid
            simp only [opsAt_nil, opsAt_cons, consOpt_some, List.getElem?_toArray, List.getElem?_cons_zero, List.getElem?_cons_succ]
            go_wp2_with (go_at_call 49; refine (RT1 _).mono ?_; rintro e v3 ⟨rfl, hrt, hbt⟩)
            have R1 := Lib.hid hrt
            have hb3 := hb2.trans (hbt.mono hb2.size)
            replace k11 := blk hbt k11
            replace k12 := blk hbt k12
            clear hbt hrt hb2
            refine onlyNormal_mk ⟨⟨⟨_, hb3⟩, rfl⟩, ?_⟩
            refine wpE_one (i := 10) rfl (by kernel_rfl) rfl ?_
            unfold wpMid
            simp only [opsAt_nil, opsAt_cons, consOpt_some, List.getElem?_toArray, List.getElem?_cons_zero, List.getElem?_cons_succ]
            go_wp2_with (go_at_call 49; refine (RT2 _).mono ?_; rintro e v4 ⟨rfl, hrt, hbt⟩)
            have R2 := Lib.hid hrt
            have hb4 := hb3.trans (hbt.mono hb3.size)
            replace k11 := blk hbt k11
            replace k12 := blk hbt k12
            clear hbt hrt hb3
            refine onlyNormal_mk ⟨⟨⟨_, hb4⟩, rfl⟩, ?_⟩
            refine wpE_tail rfl (by kernel_rfl) ?_
            simp only [opsAt_nil, opsAt_cons, consOpt_some, List.getElem?_toArray, List.getElem?_cons_zero, List.getElem?_cons_succ]
            obtain ⟨t0, t1, q0, q1⟩ := res2 k11
            obtain ⟨u0, u1, p0, p1⟩ := res2 k12
            have HM := Lib.hid (rc_mk (h1 := h1) (h2 := h2) hb4 k11 k12 hne hg11 hg12 R1.out R2.out)
            clear k11 k12 hb4
            go_wp2
            refine onlyNormal_mk ?_
            go_wp2_with fail
            go_meet
            exact HM.out
        · unfold wpMid
          simp only [opsAt_nil, opsAt_cons, consOpt_some, List.getElem?_toArray, List.getElem?_cons_zero, List.getElem?_cons_succ]
          go_wp2
          have k12 : (v0.alloc (.cells #[.int .i64 0, .int .i64 0] 54)).heap[v0.heap.size]? = some (.cells #[.int .i64 0, .int .i64 0] 54 (0, 0)) := by rw [heapq_alloc, if_pos rfl]
          have hbt : Below v0.heap.size v0 (v0.alloc (.cells #[.int .i64 0, .int .i64 0] 54)) := (Below.refl _ _).alloc (Nat.le_refl _) _
          have hb1 := hb0.trans (hbt.mono hb0.size)
          have hg12 : wr.heap.size ≤ v0.heap.size := hb0.size
          clear hbt hb0
          generalize v0.alloc (.cells #[.int .i64 0, .int .i64 0] 54) = v1 at *
          generalize v0.heap.size = a12 at *
          refine onlyNormal_mk ⟨⟨⟨_, hb1⟩, rfl⟩, ?_⟩
          refine wpE_two (i := 4) (k := 11) rfl (by kernel_rfl) rfl rfl ?_ ?_
          · unfold wpMid
            simp only [opsAt_nil, opsAt_cons, consOpt_some, List.getElem?_toArray, List.getElem?_cons_zero, List.getElem?_cons_succ]
            go_wp2_with (go_at_call 49; refine (RT1 _).mono ?_; rintro e v2 ⟨rfl, hrt, hbt⟩)
            have R1 := Lib.hid hrt
            have hb2 := hb1.trans (hbt.mono hb1.size)
            replace k12 := blk hbt k12
            clear hbt hrt hb1
            refine onlyNormal_mk ⟨⟨⟨_, hb2⟩, rfl⟩, ?_⟩
            refine wpE_two (i := 10) (k := 11) rfl (by kernel_rfl) rfl rfl ?_ ?_
            · unfold wpMid
              simp only [opsAt_nil, opsAt_cons, consOpt_some, List.getElem?_toArray, List.getElem?_cons_zero, List.getElem?_cons_succ]
              go_wp2_with (go_at_call 49; refine (RT2 _).mono ?_; rintro e v3 ⟨rfl, hrt, hbt⟩)
              have R2 := Lib.hid hrt
              have hb3 := hb2.trans (hbt.mono hb2.size)
              replace k12 := blk hbt k12
              clear hbt hrt hb2
              refine onlyNormal_mk ⟨⟨⟨_, hb3⟩, rfl⟩, ?_⟩
              refine wpE_one (i := 11) rfl (by kernel_rfl) rfl ?_
              unfold wpMid
              simp only [opsAt_nil, opsAt_cons, consOpt_some, List.getElem?_toArray, List.getElem?_cons_zero, List.getElem?_cons_succ]
              go_wp2
              have k11 : (v3.alloc (.cells #[.int .i64 0, .int .i64 0] 54)).heap[v3.heap.size]? = some (.cells #[.int .i64 0, .int .i64 0] 54 (0, 0)) := by rw [heapq_alloc, if_pos rfl]
              have hbt : Below v3.heap.size v3 (v3.alloc (.cells #[.int .i64 0, .int .i64 0] 54)) := (Below.refl _ _).alloc (Nat.le_refl _) _
              have hb4 := hb3.trans (hbt.mono hb3.size)
              have hg11 : wr.heap.size ≤ v3.heap.size := hb3.size
              have hne : v3.heap.size ≠ a12 := by have := (Array.getElem?_eq_some_iff.1 k12).1; omega
              replace k12 := blk hbt k12
              clear hbt hb3
              generalize v3.alloc (.cells #[.int .i64 0, .int .i64 0] 54) = v4 at *
              generalize v3.heap.size = a11 at *
              refine onlyNormal_mk ⟨⟨⟨_, hb4⟩, rfl⟩, ?_⟩
              refine wpE_tail rfl (by kernel_rfl) ?_
              simp only [opsAt_nil, opsAt_cons, consOpt_some, List.getElem?_toArray, List.getElem?_cons_zero, List.getElem?_cons_succ]
              obtain ⟨t0, t1, q0, q1⟩ := res2 k11
              obtain ⟨u0, u1, p0, p1⟩ := res2 k12
              have HM := Lib.hid (rc_mk (h1 := h1) (h2 := h2) hb4 k11 k12 hne hg11 hg12 R1.out R2.out)
              clear k11 k12 hb4
              go_wp2
              refine onlyNormal_mk ?_
              go_wp2_with fail
              go_meet
              exact HM.out
            · unfold wpMid
              simp only [opsAt_nil, opsAt_cons, consOpt_some, List.getElem?_toArray, List.getElem?_cons_zero, List.getElem?_cons_succ]
              go_wp2
              have k11 : (v2.alloc (.cells #[.int .i64 0, .int .i64 0] 54)).heap[v2.heap.size]? = some (.cells #[.int .i64 0, .int .i64 0] 54 (0, 0)) := by rw [heapq_alloc, if_pos rfl]
              have hbt : Below v2.heap.size v2 (v2.alloc (.cells #[.int .i64 0, .int .i64 0] 54)) := (Below.refl _ _).alloc (Nat.le_refl _) _
              have hb3 := hb2.trans (hbt.mono hb2.size)
              have hg11 : wr.heap.size ≤ v2.heap.size := hb2.size
              have hne : v2.heap.size ≠ a12 := by have := (Array.getElem?_eq_some_iff.1 k12).1; omega
              replace k12 := blk hbt k12
              clear hbt hb2
              generalize v2.alloc (.cells #[.int .i64 0, .int .i64 0] 54) = v3 at *
              generalize v2.heap.size = a11 at *
              refine onlyNormal_mk ⟨⟨⟨_, hb3⟩, rfl⟩, ?_⟩
              refine wpE_one (i := 10) rfl (by kernel_rfl) rfl ?_
              unfold wpMid
              simp only [opsAt_nil, opsAt_cons, consOpt_some, List.getElem?_toArray, List.getElem?_cons_zero, List.getElem?_cons_succ]
              go_wp2_with (go_at_call 49; refine (RT2 _).mono ?_; rintro e v4 ⟨rfl, hrt, hbt⟩)
              have R2 := Lib.hid hrt
              have hb4 := hb3.trans (hbt.mono hb3.size)
              replace k12 := blk hbt k12
              replace k11 := blk hbt k11
              clear hbt hrt hb3
              refine onlyNormal_mk ⟨⟨⟨_, hb4⟩, rfl⟩, ?_⟩
              refine wpE_tail rfl (by kernel_rfl) ?_
              simp only [opsAt_nil, opsAt_cons, consOpt_some, List.getElem?_toArray, List.getElem?_cons_zero, List.getElem?_cons_succ]
              obtain ⟨t0, t1, q0, q1⟩ := res2 k11
              obtain ⟨u0, u1, p0, p1⟩ := res2 k12
              have HM := Lib.hid (rc_mk (h1 := h1) (h2 := h2) hb4 k11 k12 hne hg11 hg12 R1.out R2.out)
              clear k11 k12 hb4
              go_wp2
              refine onlyNormal_mk ?_
              go_wp2_with fail
              go_meet
              exact HM.out
          · unfold wpMid
            simp only [opsAt_nil, opsAt_cons, consOpt_some, List.getElem?_toArray, List.getElem?_cons_zero, List.getElem?_cons_succ]
            go_wp2
            have k11 : (v1.alloc (.cells #[.int .i64 0, .int .i64 0] 54)).heap[v1.heap.size]? = some (.cells #[.int .i64 0, .int .i64 0] 54 (0, 0)) := by rw [heapq_alloc, if_pos rfl]
            have hbt : Below v1.heap.size v1 (v1.alloc (.cells #[.int .i64 0, .int .i64 0] 54)) := (Below.refl _ _).alloc (Nat.le_refl _) _
            have hb2 := hb1.trans (hbt.mono hb1.size)
            have hg11 : wr.heap.size ≤ v1.heap.size := hb1.size
            have hne : v1.heap.size ≠ a12 := by have := (Array.getElem?_eq_some_iff.1 k12).1; omega
            replace k12 := blk hbt k12
            clear hbt hb1
            generalize v1.alloc (.cells #[.int .i64 0, .int .i64 0] 54) = v2 at *
            generalize v1.heap.size = a11 at *
            refine onlyNormal_mk ⟨⟨⟨_, hb2⟩, rfl⟩, ?_⟩
            refine wpE_one (i := 4) rfl (by kernel_rfl) rfl ?_
            unfold wpMid
            simp only [opsAt_nil, opsAt_cons, consOpt_some, List.getElem?_toArray, List.getElem?_cons_zero, List.getElem?_cons_succ]
            go_wp2_with (go_at_call 49; refine (RT1 _).mono ?_; rintro e v3 ⟨rfl, hrt, hbt⟩)
            have R1 := Lib.hid hrt
            have hb3 := hb2.trans (hbt.mono hb2.size)
            replace k12 := blk hbt k12
            replace k11 := blk hbt k11
            clear hbt hrt hb2
            refine onlyNormal_mk ⟨⟨⟨_, hb3⟩, rfl⟩, ?_⟩
            refine wpE_one (i := 10) rfl (by kernel_rfl) rfl ?_
            unfold wpMid
            simp only [opsAt_nil, opsAt_cons, consOpt_some, List.getElem?_toArray, List.getElem?_cons_zero, List.getElem?_cons_succ]
            go_wp2_with (go_at_call 49; refine (RT2 _).mono ?_; rintro e v4 ⟨rfl, hrt, hbt⟩)
            have R2 := Lib.hid hrt
            have hb4 := hb3.trans (hbt.mono hb3.size)
            replace k12 := blk hbt k12
            replace k11 := blk hbt k11
            clear hbt hrt hb3
            refine onlyNormal_mk ⟨⟨⟨_, hb4⟩, rfl⟩, ?_⟩
            refine wpE_tail rfl (by kernel_rfl) ?_
            simp only [opsAt_nil, opsAt_cons, consOpt_some, List.getElem?_toArray, List.getElem?_cons_zero, List.getElem?_cons_succ]
            obtain ⟨t0, t1, q0, q1⟩ := res2 k11
            obtain ⟨u0, u1, p0, p1⟩ := res2 k12
            have HM := Lib.hid (rc_mk (h1 := h1) (h2 := h2) hb4 k11 k12 hne hg11 hg12 R1.out R2.out)
            clear k11 k12 hb4
            go_wp2
            refine onlyNormal_mk ?_
            go_wp2_with fail
            go_meet
            exact HM.out
      case rest =>
        obtain ⟨a1, a2, rfl, rfl, ka, kb, hb, hr1, hr2⟩ := hcut
        have hp1 : 0 ≤ h1 ∧ h1 ≤ 200001 ∧ (h1 = 0 ∨ 1 ≤ r1) := by
          have h9 := H1.out
          obtain ⟨q0, q1, q2, q3⟩ := hr1
          split at h9
          · refine ⟨by omega, by omega, ?_⟩
            rcases Int.lt_or_le r1 1 with h8 | h8
            · obtain rfl : r1 = 0 := by omega
              simp at q3
              omega
            · exact .inr h8
          · refine ⟨by omega, by omega, ?_⟩
            rcases Int.lt_or_le r1 1 with h8 | h8
            · exact .inl (by omega)
            · exact .inr h8
        have hp2 : 0 ≤ h2 ∧ h2 ≤ 200001 ∧ (h2 = 0 ∨ 1 ≤ r2) := by
          have h9 := H2.out
          obtain ⟨q0, q1, q2, q3⟩ := hr2
          split at h9
          · refine ⟨by omega, by omega, ?_⟩
            rcases Int.lt_or_le r2 1 with h8 | h8
            · obtain rfl : r2 = 0 := by omega
              simp at q3
              omega
            · exact .inr h8
          · refine ⟨by omega, by omega, ?_⟩
            rcases Int.lt_or_le r2 1 with h8 | h8
            · exact .inl (by omega)
            · exact .inr h8
        have hq1 : 0 ≤ r1 ∧ r1 ≤ 200000 := ⟨hr1.1, hr1.2.1⟩
        have hq2 : 0 ≤ r2 ∧ r2 ≤ 200000 := ⟨hr2.1, hr2.2.1⟩
        replace hzr := blk hb hzr
        replace kR2 := blk hb kR2
        replace kp := blk hb kp
        replace HBR := Lib.hid (HBR.out.trans (hb.mono (Nat.le_of_lt hzw)))
        replace hzw := Nat.lt_of_lt_of_le hzw hb.size
        clear hb x1 x2 e1 e2 RT1 RT2 H1 H2 hr1 hr2 hb1 hb2
        obtain ⟨c0, c1⟩ := cells2 ka
        obtain ⟨e0, e1⟩ := cells2 kb
        obtain ⟨f0, f1, f2, f3⟩ := cells4w kp
        clear ka kb kp
        by_cases hz0 : h1 + h2 = 0
        · have hz1 : (h1 + h2 == 0) = true := beq_iff_eq.2 hz0
          obtain ⟨r0, r1', q0, q1⟩ := res2 kR2
          have HB9 := Lib.hid (HB.out.trans (HBR.out.mono hs))
          have HK := Lib.hid kR2
          clear hzr kR2 hp1 hp2
          go_wp2
          refine bodyPost_ret (v := .tuple #[.agg #[.int .i64 0, .int .i64 0], .int .i64 11]) (by simp [results, Try.results18, go_sem, r0, r1']) rfl ⟨.inr rfl, ?_⟩
          exact HB9.out.trans (put2_below _ _ (Nat.le_succ _))
        · have hz1 : (h1 + h2 == 0) = false := beq_eq_false_iff_ne.2 hz0
          have hs1 : 1 ≤ r1 + r2 ∧ r1 + r2 ≤ 400000 := by omega
          have hs2 : 1 ≤ h1 + h2 ∧ h1 + h2 ≤ 400002 := by omega
          have hw1 : 2000 ≤ 2000 * xl ∧ 2000 * xl ≤ 20000000000 := by omega
          obtain ⟨zc0, zc1, zf0, zf1⟩ := res2 hzr
          have x0 := fun x : Xt wc => x.cell c0
          have x1 := fun x : Xt wc => x.cell c1
          have x2 := fun x : Xt wc => x.cell e0
          have x3 := fun x : Xt wc => x.cell e1
          have x4 := fun x : Xt wc => x.cell f0
          go_upto_region 12 with (fail)
          refine wp_region_xt (by kernel_rfl) (by kernel_rfl) ?_
          repeat (go_big_quiet_step (fail))
          refine wpQuiet_nil ?_
          intro wq hx
          have hbq := Xt.below hx
          clear hx x0 x1 x2 x3 x4 c0 c1 e0 e1 f0 f1 f2 f3 zc0 zc1 zf0 zf1 hz0 hz1 hp1 hp2 hq1 hq2
          replace hzr := blk hbq hzr
          replace HBR := Lib.hid (HBR.out.trans (hbq.mono (Nat.le_of_lt hzw)))
          replace hzw := Nat.lt_of_lt_of_le hzw hbq.size
          clear hbq kR2
          generalize 2000 * xl = WY at *
          generalize r1 + r2 = SL at *
          generalize h1 + h2 = FA at *
          have hd0 : (FA == 0) = false := beq_eq_false_iff_ne.2 (by omega)
          have hd1 : (SL == 0) = false := beq_eq_false_iff_ne.2 (by omega)
          have hq1 : 0 ≤ WY.tdiv FA ∧ WY.tdiv FA ≤ 20000000000 := by
            rw [Int.tdiv_eq_ediv_of_nonneg (by omega)]
            have := Int.ediv_nonneg (show 0 ≤ WY by omega) (show 0 ≤ FA by omega)
            have := Int.ediv_le_self FA (show 0 ≤ WY by omega)
            omega
          have hcd : (WY + SL - 1).tdiv SL = cd WY SL := by rw [cd, Int.tdiv_eq_ediv_of_nonneg (by omega)]
          have hq2 : 0 ≤ cd WY SL ∧ cd WY SL ≤ 20000400000 := by
            unfold cd
            have := Int.ediv_nonneg (show 0 ≤ WY + SL - 1 by omega) (show 0 ≤ SL by omega)
            have := Int.ediv_le_self SL (show 0 ≤ WY + SL - 1 by omega)
            omega
          have hk20 : (k : Int) * 20000000000 ≤ 240000000000 ∧ (k : Int) * 20000400000 ≤ 240004800000 := by omega
          generalize cd WY SL = q2 at *
          obtain ⟨q1, hqe⟩ : ∃ q, WY.tdiv FA = q := ⟨_, rfl⟩
          rw [hqe] at hq1
          have HT1 : Hid (T1 = T0 + q2) := HTH
          clear HTH
          obtain ⟨zc0, zc1, zf0, zf1⟩ := res2 hzr
          have x0 := fun x : Xt wq => x.cell zc0
          have x1 := fun x : Xt wq => x.cell zc1
          go_upto_region 13 with (fail)
          refine wp_region_eager [7] (fun w' => ∃ x : Xt wq, w' = x.1) (by kernel_rfl) ⟨⟨wq.drew, (Below.refl _ _).drew⟩, rfl⟩ ?_
          refine wpE_reads7 [0, 1, 2, 3, 4, 5, 6] 1 rfl (by kernel_rfl) ?_
          simp only [opsAt_nil, opsAt_cons, consOpt_some, List.getElem?_toArray, List.getElem?_cons_zero, List.getElem?_cons_succ]
          repeat (go_big_quiet_step (fail))
          refine wpQuiet_nil ?_
          have hbd : Below wq.heap.size wq wq.drew := (Below.refl _ _).drew
          show wpE _ _ _ _ _ _ _ _ _ wq.drew
          replace hzr := blk hbd hzr
          replace HBR := Lib.hid (HBR.out.trans (hbd.mono (Nat.le_of_lt hzw)))
          replace hzw := Nat.lt_of_lt_of_le hzw hbd.size
          clear hbd x0 x1 zc0 zc1 zf0 zf1 hqe
          generalize wq.drew = wd at *
          obtain ⟨zc0, zc1, zf0, zf1⟩ := res2 hzr
          refine wpE_tail rfl (by kernel_rfl) ?_
          simp only [opsAt_nil, opsAt_cons, consOpt_some, List.getElem?_toArray, List.getElem?_cons_zero, List.getElem?_cons_succ]
          have hz1 : (wd.setCell ⟨z, 0, none⟩ (.int .i64 (lo + q1))).heap[z]? = some (.cells #[.int .i64 (lo + q1), .int .i64 T0] 54 (0, 0)) := by
            rw [heapq_set, if_pos rfl, hzr]
            rfl
          replace HBR := Lib.hid (HBR.out.setCell (p := ⟨z, 0, none⟩) (Nat.le_refl z) (.int .i64 (lo + q1)))
          clear hzr
          go_wp2
          refine onlyNormal_mk ?_
          clear zc0 zc1 zf0 zf1
          generalize wd.setCell ⟨z, 0, none⟩ (.int .i64 (lo + q1)) = we at *
          obtain ⟨zc0, zc1, zf0, zf1⟩ := res2 hz1
          have x0 := fun x : Xt we => x.cell zc0
          have x1 := fun x : Xt we => x.cell zc1
          go_upto_region 14 with (fail)
          refine wp_region_eager [10] (fun w' => ∃ x : Xt we, w' = x.1) (by kernel_rfl) ⟨⟨we.drew, (Below.refl _ _).drew⟩, rfl⟩ ?_
          refine wpE_reads7 [0, 1, 2, 3, 4, 5, 6, 7, 8, 9] 1 rfl (by kernel_rfl) ?_
          simp only [opsAt_nil, opsAt_cons, consOpt_some, List.getElem?_toArray, List.getElem?_cons_zero, List.getElem?_cons_succ]
          repeat (go_big_quiet_step (fail))
          refine wpQuiet_nil ?_
          have hzl := (Array.getElem?_eq_some_iff.1 hz1).1
          have hbd : Below we.heap.size we we.drew := (Below.refl _ _).drew
          show wpE _ _ _ _ _ _ _ _ _ we.drew
          replace hz1 := blk hbd hz1
          replace HBR := Lib.hid (HBR.out.trans (hbd.mono (Nat.le_of_lt hzl)))
          clear hbd x0 x1 zc0 zc1 zf0 zf1 hcd
          generalize we.drew = wf at *
          obtain ⟨zc0, zc1, zf0, zf1⟩ := res2 hz1
          refine wpE_tail rfl (by kernel_rfl) ?_
          simp only [opsAt_nil, opsAt_cons, consOpt_some, List.getElem?_toArray, List.getElem?_cons_zero, List.getElem?_cons_succ]
          have hz2 : (wf.setCell ⟨z, 1, none⟩ (.int .i64 (T0 + q2))).heap[z]? = some (.cells #[.int .i64 (lo + q1), .int .i64 (T0 + q2)] 54 (0, 0)) := by
            rw [heapq_set, if_pos rfl, hz1]
            rfl
          replace HBR := Lib.hid (HBR.out.setCell (p := ⟨z, 1, none⟩) (Nat.le_refl z) (.int .i64 (T0 + q2)))
          have HZ2 := Lib.hid hz2
          clear hz1 hz2
          go_wp2
          refine onlyNormal_mk ?_
          go_wp2
          go_roundw
          case rel =>
            refine ⟨⟨k + 1, hlt, by go_num, lo + q1, ⟨by omega, by push_cast; omega⟩, ?_, ?_, ?_⟩, HBR.out⟩
            · rw [show tH pcs l (k + 1) = T1 from HTK.out, HT1.out]
              push_cast
              omega
            · intro i hi
              rcases Nat.lt_or_ge i k with h9 | h9
              · exact HPOS.out i h9
              · obtain rfl : i = k := by omega
                rw [HSUM.out]
                exact hs1.1
            · rw [show tH pcs l (k + 1) = T1 from HTK.out, HT1.out]
              exact HZ2.out
          case measure => simp [intOf]; omega
    · obtain rfl : k = np := by omega
      obtain ⟨zc0, zc1⟩ := cells2 hzr
      obtain ⟨r0, r1, q0, q1⟩ := res2 kR2
      have HK := Lib.hid kR2
      clear hTR hlR kR2 hzr
      go_wp2
      refine bodyPost_ret (v := .tuple #[.agg #[.int .i64 lo, .int .i64 (tH pcs l k)], .int .i64 0]) (by simp [results, Try.results18, go_sem, r0, r1]) rfl ⟨.inl ⟨lo, rfl, HPOS.out⟩, ?_⟩
      exact (HB.out.trans (HBR.out.mono hs)).trans (put2_below _ _ (Nat.le_succ _))
end Go.Proofs.Ytnnnpijepdjanaa

namespace Go.Proofs.Ytnnnpijepdjanaa

theorem gainAt_some {pcs : List Pc} {s : Sy} {i : Nat} {p : Pc} (h : pcs[i]? = some p) : gainAt pcs s i = -(lose (-s.drive) p) := by simp [gainAt, h]
theorem bk_ge {pcs : List Pc} {s : Sy} {l : List Int} {np : Nat} (hlp : pcs.length = np) (hR : RunTo pcs s l (np + 1)) (hq : SqR np l) (h0 : l[np]? = some 0) : ∀ d, d ≤ np → ∀ n, l[np - d]? = some n → n ≤ bk pcs s d
  | 0, _, n, hn => by
    rw [Nat.sub_zero, h0] at hn
    cases hn
    simp [bk]
  | d + 1, hd, n, hn => by
    obtain ⟨i, hi⟩ : ∃ i, np - (d + 1) = i := ⟨_, rfl⟩
    rw [hi] at hn
    obtain ⟨m, hm⟩ : ∃ m, l[i + 1]? = some m := ⟨_, List.getElem?_eq_getElem (by rw [hq.1]; omega)⟩
    obtain ⟨p, hp⟩ : ∃ p, pcs[i]? = some p := ⟨_, List.getElem?_eq_getElem (by omega)⟩
    have ih := bk_ge hlp hR hq h0 d (by omega) m (by rw [show np - d = i + 1 by omega]; exact hm)
    have hm0 := (hq.2 m (List.mem_of_getElem? hm)).1
    have h1 := (hR i (by omega) n hn).1
    have h2 := ((hR (i + 1) (by omega) m hm).2 i n p rfl hn hp).1
    rw [bk, if_neg (by omega), hlp, hi, hp]
    simp only [Option.map_some, Option.getD_some]
    omega
theorem fs_ge {pcs : List Pc} {s : Sy} {l : List Int} {np : Nat} (hlp : pcs.length = np) (hR : RunTo pcs s l (np + 1)) (hq : SqR np l) (h0 : l[np]? = some 0) (hb : l[0]? = some 0) : ∀ i, i ≤ np → ∀ n, l[i]? = some n → n ≤ fs pcs s i
  | 0, _, n, hn => by
    rw [hb] at hn
    cases hn
    simp [fs]
  | i + 1, hi, n, hn => by
    obtain ⟨m, hm⟩ : ∃ m, l[i]? = some m := ⟨_, List.getElem?_eq_getElem (by rw [hq.1]; omega)⟩
    obtain ⟨p, hp⟩ : ∃ p, pcs[i]? = some p := ⟨_, List.getElem?_eq_getElem (by omega)⟩
    have ih := fs_ge hlp hR hq h0 hb i (by omega) m hm
    have h1 := bk_ge (s := s) hlp hR hq h0 (np - (i + 1)) (by omega) n (by rw [show np - (np - (i + 1)) = i + 1 by omega]; exact hn)
    have h2 := ((hR (i + 1) (by omega) n hn).2 i m p rfl hm hp).2
    rw [fs, hlp, gainAt_some hp]
    omega
theorem rt_exists : ∀ n : Nat, ∃ r : Nat, r * r ≤ n ∧ n < (r + 1) * (r + 1)
  | 0 => ⟨0, by simp, by simp⟩
  | n + 1 => by
    obtain ⟨r, h1, h2⟩ := rt_exists n
    by_cases h : n + 1 < (r + 1) * (r + 1)
    · exact ⟨r, by omega, h⟩
    · refine ⟨r + 1, by omega, ?_⟩
      have : (r + 1 + 1) * (r + 1 + 1) = (r + 1) * (r + 1) + 2 * (r + 1) + 1 := by
        simp only [Nat.add_mul, Nat.mul_add]
        omega
      omega
theorem rtF_is {n : Int} (h0 : 0 ≤ n) (h1 : n ≤ 20000000000) : RtIs n (rtF n) := by
  obtain ⟨r, a, b⟩ := rt_exists n.toNat
  have hr : RtIs n (r : Int) := by
    have e : ((n.toNat : Nat) : Int) = n := Int.toNat_of_nonneg h0
    have a' : (r : Int) * r ≤ n := by rw [← e]; exact_mod_cast a
    refine ⟨by omega, ?_, a', by rw [← e]; exact_mod_cast b⟩
    rcases Int.lt_or_le 200000 (r : Int) with h9 | h9
    · have := sq_mono (a := 200001) (b := (r : Int)) (by omega) (by omega)
      omega
    · exact h9
  rw [rtF_eq hr]
  exact hr
theorem rtF_mono {n m : Int} (h0 : 0 ≤ n) (hnm : n ≤ m) (h1 : m ≤ 20000000000) : rtF n ≤ rtF m := by
  obtain ⟨a0, _, a1, a2⟩ := rtF_is h0 (by omega)
  obtain ⟨b0, _, b1, b2⟩ := rtF_is (n := m) (by omega) h1
  rcases Int.lt_or_le (rtF m) (rtF n) with h | h
  · have := sq_mono (a := rtF m + 1) (b := rtF n) (by omega) (by omega)
    omega
  · exact h
theorem cd_anti {way s t : Int} (hw : 0 ≤ way) (hs : 1 ≤ s) (ht : s ≤ t) : cd way t ≤ cd way s := by
  unfold cd
  have h1 := Int.lt_ediv_add_one_mul_self (way + s - 1) (show 0 < s by omega)
  have h2 : 0 ≤ (way + s - 1) / s := Int.ediv_nonneg (by omega) (by omega)
  generalize (way + s - 1) / s = q at *
  have e1 : (q + 1) * s = q * s + s := by rw [Int.add_mul, Int.one_mul]
  have e2 : (q + 1) * t = q * t + t := by rw [Int.add_mul, Int.one_mul]
  have h3 : q * s ≤ q * t := Int.mul_le_mul_of_nonneg_left ht h2
  have h4 : (way + t - 1) / t < q + 1 := Int.ediv_lt_of_lt_mul (by omega) (by rw [e2]; omega)
  omega
theorem cd_pos {way s : Int} (hw : 1 ≤ way) (hs : 1 ≤ s) : 1 ≤ cd way s := by
  unfold cd
  exact Int.le_ediv_of_mul_le (by omega) (by omega)
theorem tH_anti {pcs : List Pc} {l q : List Int} {np : Nat} (hlp : pcs.length = np) (hp : ∀ p ∈ pcs, PcR p) (hl : SqR np l) (hq : SqR np q) (hpos : PosTo l np) (h : ∀ i, i ≤ np → ∀ n m, l[i]? = some n → q[i]? = some m → n ≤ m) : ∀ k, k ≤ np → tH pcs q k ≤ tH pcs l k
  | 0, _ => Int.le_refl _
  | k + 1, hk => by
    have ih := tH_anti hlp hp hl hq hpos h k (by omega)
    obtain ⟨p, hpk⟩ : ∃ p, pcs[k]? = some p := ⟨_, List.getElem?_eq_getElem (by omega)⟩
    obtain ⟨a, ha⟩ : ∃ n, l[k]? = some n := ⟨_, List.getElem?_eq_getElem (by rw [hl.1]; omega)⟩
    obtain ⟨b, hb⟩ : ∃ n, l[k + 1]? = some n := ⟨_, List.getElem?_eq_getElem (by rw [hl.1]; omega)⟩
    obtain ⟨c, hc⟩ : ∃ n, q[k]? = some n := ⟨_, List.getElem?_eq_getElem (by rw [hq.1]; omega)⟩
    obtain ⟨d, hd⟩ : ∃ n, q[k + 1]? = some n := ⟨_, List.getElem?_eq_getElem (by rw [hq.1]; omega)⟩
    have hps := hpos k (by omega)
    rw [ha, hb] at hps
    simp only [Option.getD_some] at hps
    have h1 := rtF_mono (hl.2 a (List.mem_of_getElem? ha)).1 (h k (by omega) a c ha hc) (hq.2 c (List.mem_of_getElem? hc)).2
    have h2 := rtF_mono (hl.2 b (List.mem_of_getElem? hb)).1 (h (k + 1) (by omega) b d hb hd) (hq.2 d (List.mem_of_getElem? hd)).2
    have hlen := (hp p (List.mem_of_getElem? hpk)).1.1
    rw [tH, tH, hpk, ha, hb, hc, hd]
    simp only [Option.map_some, Option.getD_some]
    have := cd_anti (way := 2000 * p.len) (by omega) hps (show rtF a + rtF b ≤ rtF c + rtF d by omega)
    omega
theorem tH_nonneg {pcs : List Pc} {l : List Int} {np : Nat} (hlp : pcs.length = np) (hp : ∀ p ∈ pcs, PcR p) (hpos : PosTo l np) : ∀ k, k ≤ np → (k : Int) ≤ tH pcs l k
  | 0, _ => by simp [tH]
  | k + 1, hk => by
    have ih := tH_nonneg hlp hp hpos k (by omega)
    obtain ⟨p, hpk⟩ : ∃ p, pcs[k]? = some p := ⟨_, List.getElem?_eq_getElem (by omega)⟩
    have hlen := (hp p (List.mem_of_getElem? hpk)).1.1
    rw [tH, hpk]
    simp only [Option.map_some, Option.getD_some]
    have := cd_pos (way := 2000 * p.len) (by omega) (hpos k (by omega))
    push_cast
    omega
/-- what the fastest run is beside any other one from rest to rest -/
theorem fast_first {pcs : List Pc} {s : Sy} {l : List Int} {np : Nat} (hlp : pcs.length = np) (h1 : 1 ≤ np) (hp : ∀ p ∈ pcs, PcR p) (hR : RunTo pcs s l (np + 1)) (hq : SqR np l) (h0 : l[np]? = some 0) (hb : l[0]? = some 0) (hf : SqR np (fsL pcs s)) (hpl : PosTo l np) (hpf : PosTo (fsL pcs s) np) :
    1 ≤ tH pcs (fsL pcs s) np ∧ tH pcs (fsL pcs s) np ≤ tH pcs l np := by
  refine ⟨by have := tH_nonneg hlp hp hpf np (Nat.le_refl _); omega, tH_anti hlp hp hq hf hpl (fun i hi n m hn hm => ?_) np (Nat.le_refl _)⟩
  rw [fsL_at _ _ _ (by omega)] at hm
  cases hm
  exact fs_ge hlp hR hq h0 hb i hi n hn
theorem fsL_right {pcs : List Pc} {s : Sy} {np : Nat} (hlp : pcs.length = np) (h1 : 1 ≤ np) (hp : ∀ p ∈ pcs, PcR p) (h : ∀ i, i ≤ np → 0 ≤ fs pcs s i) : SqR np (fsL pcs s) := by
  refine ⟨by rw [fsL_len, hlp], fun x hx => ?_⟩
  rw [fsL, List.mem_map] at hx
  obtain ⟨i, hi, rfl⟩ := hx
  rw [List.mem_range] at hi
  exact ⟨h i (by omega), fs_le hp (by omega) i⟩
end Go.Proofs.Ytnnnpijepdjanaa

namespace Go.Proofs.Ytnnnpijepdjanaa
open Go.RowKit

/-- an activity that times do not keep -/
def brokenB (l : List Int) (a : Act) : Bool :=
  decide ((l[a.dst.toNat]?).getD 0 - (l[a.src.toNat]?).getD 0 < a.least) || (decide (a.most ≠ -1) && decide (a.most < (l[a.dst.toNat]?).getD 0 - (l[a.src.toNat]?).getD 0))
set_option maxRecDepth 100000 in
set_option maxHeartbeats 4000000 in
theorem broken1_any (w : World) (ne : Nat) (a : Act) (hR : actR ne a) (x : Nat) (B : Nat) (At : Option Addr) (ct : Nat) (l : List Int) (hl : l.length = ne) (hx : w.heap[x]? = some (.cells #[.slice At ne ct] 30 (0, 0))) (ht : Rd w B At (intCells l)) (hB : B ≤ w.heap.size) (hr : ∀ t ∈ l, 0 ≤ t ∧ t ≤ 10000000) :
    Calls Try.prog 76 #[actV a, .pointer (some ⟨x, 0, none⟩)] w fun e w' => e = .returned (.bool (brokenB l a)) ∧ Below w.heap.size w w' := by
  obtain ⟨ak, asr, ads, al, am, aw⟩ := a
  obtain ⟨hk, ⟨hs1, hs2⟩, ⟨hd1, hd2⟩, hne2, hl1, hm1, hw1, hf⟩ := hR
  simp only at hk hs1 hs2 hd1 hd2 hne2 hl1 hm1 hw1 hf
  obtain ⟨sN, rfl⟩ : ∃ n : Nat, asr = n := ⟨asr.toNat, by omega⟩
  obtain ⟨dN, rfl⟩ : ∃ n : Nat, ads = n := ⟨ads.toNat, by omega⟩
  have hsn : sN < ne := by omega
  have hdn : dN < ne := by omega
  obtain ⟨ts, hts⟩ : ∃ t, l[sN]? = some t := ⟨_, List.getElem?_eq_getElem (by omega)⟩
  obtain ⟨td, htd⟩ : ∃ t, l[dN]? = some t := ⟨_, List.getElem?_eq_getElem (by omega)⟩
  obtain ⟨y, hy⟩ : ∃ y, brokenB l ⟨ak, sN, dN, al, am, aw⟩ = y := ⟨_, rfl⟩
  have HY : Hid (y = (decide (td - ts < al) || (decide (am ≠ -1) && decide (am < td - ts)))) := by
    rw [Hid, ← hy, brokenB]
    simp only [Int.toNat_natCast, hts, htd, Option.getD_some]
  rw [hy]
  clear hy
  have hb0 : Below w.heap.size w (w.alloc (.cells #[.int .i64 ak, .int .i64 (sN : Int), .int .i64 (dN : Int), .int .i64 al, .int .i64 am, .int .i64 aw] 61)) := (Below.refl _ _).alloc (Nat.le_refl _) _
  have k0 : (w.alloc (.cells #[.int .i64 ak, .int .i64 (sN : Int), .int .i64 (dN : Int), .int .i64 al, .int .i64 am, .int .i64 aw] 61)).heap[w.heap.size]? = some (.cells #[.int .i64 ak, .int .i64 (sN : Int), .int .i64 (dN : Int), .int .i64 al, .int .i64 am, .int .i64 aw] 61 (0, 0)) := by rw [heapq_alloc, if_pos rfl]
  have kx := blk hb0 hx
  have ht0 := ht.below (hb0.mono hB)
  have HB := Lib.hid hb0
  have hs := hb0.size
  obtain ⟨bt, ot, hAt, _, e1⟩ := ht0 sN (.int .i64 ts) (by simp [intCells, hts])
  obtain ⟨bt', ot', hAt', _, e2⟩ := ht0 dN (.int .i64 td) (by simp [intCells, htd])
  subst hAt
  cases hAt'
  have hb1 := hr ts (List.mem_of_getElem? hts)
  have hb2 := hr td (List.mem_of_getElem? htd)
  clear hb0 hx ht ht0 hts htd hr
  unfold actV
  go_enter Try.func76, Try.ntmps76
  go_upto_region 1 with (fail)
  generalize w.alloc (.cells #[.int .i64 ak, .int .i64 (sN : Int), .int .i64 (dN : Int), .int .i64 al, .int .i64 am, .int .i64 aw] 61) = w0 at *
  obtain ⟨c0, c1, c2, c3, c4, c5⟩ := cells6w k0
  have cx : w0.cell? ⟨x, 0, none⟩ = some (.slice (some ⟨bt, ot, none⟩) ne ct) := by rw [cell_of_row _ _ _ _ _ _ kx]; rfl
  have x0 := fun z : Xt w0 => z.cell c1
  have x1 := fun z : Xt w0 => z.cell c2
  have x2 := fun z : Xt w0 => z.cell cx
  have x3 := fun z : Xt w0 => z.cell e1
  have x4 := fun z : Xt w0 => z.cell e2
  refine wp_region_xt (by kernel_rfl) (by kernel_rfl) ?_
  repeat (go_big_quiet_step (fail))
  refine wpQuiet_nil ?_
  intro w1 hx
  have hb := Xt.below hx
  replace c3 := kept hb c3
  replace c4 := kept hb c4
  have HB1 := Lib.hid (HB.out.trans (hb.mono hs))
  clear hx x0 x1 x2 x3 x4 hb c0 c1 c2 c5 cx e1 e2
  by_cases h1 : td - ts < al
  · have HV : Hid (y = true) := by rw [Hid, HY.out, decide_eq_true h1]; rfl
    go_wp2
    go_ret
    exact ⟨by rw [HV.out]; rfl, HB1.out⟩
  · by_cases h2 : am = -1
    · have HV : Hid (y = false) := by rw [Hid, HY.out, decide_eq_false h1, decide_eq_false (by omega)]; rfl
      subst h2
      go_wp2
      go_ret
      exact ⟨by rw [HV.out]; rfl, HB1.out⟩
    · have h2' : (am != -1) = true := bne_iff_ne.2 h2
      by_cases h3 : am < td - ts
      · have HV : Hid (y = true) := by rw [Hid, HY.out, decide_eq_false h1, decide_eq_true (show am ≠ -1 from h2), decide_eq_true h3]; rfl
        clear h2
        go_wp2
        go_ret
        exact ⟨by rw [HV.out]; rfl, HB1.out⟩
      · have HV : Hid (y = false) := by rw [Hid, HY.out, decide_eq_false h1, decide_eq_false h3]; simp
        clear h2
        go_wp2
        go_ret
        exact ⟨by rw [HV.out]; rfl, HB1.out⟩
set_option maxRecDepth 100000 in
set_option maxHeartbeats 4000000 in
theorem IndexBroken_any (w : World) (B Ba : Nat) (Aa : Option Addr) (na ca ne : Nat) (acts : List Act) (hla : acts.length = na) (hna : na ≤ 1000) (hra : Rd w Ba Aa (actCells acts)) (hBa : Ba ≤ w.heap.size) (hR : ∀ a ∈ acts, actR ne a) (x : Nat) (At : Option Addr) (ct : Nat) (l : List Int) (hl : l.length = ne) (hx : w.heap[x]? = some (.cells #[.slice At ne ct] 30 (0, 0))) (ht : Rd w B At (intCells l)) (hB : B ≤ w.heap.size) (hr : ∀ t ∈ l, 0 ≤ t ∧ t ≤ 10000000) :
    Calls Try.prog 75 #[.slice Aa na ca, .func (.func 76) #[] #[.pointer (some ⟨x, 0, none⟩)]] w fun e w' => e = .returned (.int .i64 (idxGo (brokenB l) acts 0)) ∧ Below w.heap.size w w' := by
  have HL := Lib.hid hla
  clear hla
  go_enter Try.func75, Try.ntmps75
  go_wp2
  go_loopw [5, 8] (fun _ i wr => ∃ k : Nat, k ≤ na ∧ i = .int .i64 k ∧ idxGo (brokenB l) (acts.drop k) k = idxGo (brokenB l) acts 0 ∧ Below w.heap.size w wr) (fun _ i _ => na - (intOf i).toNat)
  case atStart => exact ⟨0, Nat.zero_le _, rfl, rfl, Below.refl _ _⟩
  case round =>
    obtain ⟨k, hk, rfl, he, hb⟩ := hrel
    have HE := Lib.hid he
    have HBR := Lib.hid hb
    have hsr := hb.size
    have hraR := hra.below (hb.mono hBa)
    have htR := ht.below (hb.mono hB)
    have hxR := blk hb hx
    have hBR := Nat.le_trans hB hsr
    clear he hb
    by_cases hlt : k < na
    · obtain ⟨a, ha⟩ : ∃ a, acts[k]? = some a := ⟨_, List.getElem?_eq_getElem (by rw [HL.out]; exact hlt)⟩
      obtain ⟨b, off, hA, _, c0, c1, c2, c3, c4, c5⟩ := hraR.act ha
      have HD := Lib.hid (drop_consE ha)
      have aR := hR a (List.mem_of_getElem? ha)
      subst hA
      obtain ⟨y, hy⟩ : ∃ y, brokenB l a = y := ⟨_, rfl⟩
      have BK := broken1_any wr ne a aR x B At ct l hl hxR htR hBR hr
      rw [hy] at BK
      have HYY := Lib.hid hy
      unfold actV at BK
      clear ha hraR htR hxR hy aR
      cases y with
      | true =>
        go_wp2_with (go_at_call 76; refine BK.mono ?_; rintro e w2 ⟨rfl, hb2⟩)
        go_ret
        exact ⟨by rw [← HE.out, HD.out, idxGo, HYY.out]; rfl, HBR.out.trans (hb2.mono hsr)⟩
      | false =>
        go_wp2_with (go_at_call 76; refine BK.mono ?_; rintro e w2 ⟨rfl, hb2⟩)
        have HB2 := Lib.hid (HBR.out.trans (hb2.mono hsr))
        clear hb2
        go_roundw
        case rel => exact ⟨k + 1, by omega, by go_num, by rw [← HE.out, HD.out, idxGo, HYY.out]; rfl, HB2.out⟩
        case measure => simp [intOf]; omega
    · have : acts.drop k = [] := by rw [List.drop_eq_nil_iff]; rw [HL.out]; omega
      have HN := Lib.hid this
      clear this hraR htR hxR
      go_wp2
      go_ret
      exact ⟨by rw [← HE.out, HN.out]; rfl, HBR.out⟩
set_option maxRecDepth 100000 in
theorem broken_any (w : World) (B : Nat) (Ae Aa : Option Addr) (ne ce na ca : Nat) (evs : List ByteArray) (acts : List Act) (h : NetAt w B Ae Aa ne ce na evs acts) (hB : B ≤ w.heap.size) (hR : NetR evs acts) (Bt : Nat) (At : Option Addr) (ct : Nat) (l : List Int) (hl : l.length = ne) (ht : Rd w Bt At (intCells l)) (hBt : Bt ≤ w.heap.size) (hr : ∀ t ∈ l, 0 ≤ t ∧ t ≤ 10000000) :
    Calls Try.prog 53 #[.agg #[.slice Ae ne ce, .slice Aa na ca], .slice At ne ct] w fun e w' => e = .returned (.int .i64 (idxGo (brokenB l) acts 0)) ∧ Below w.heap.size w w' := by
  have hne2 : ne ≤ 16 := by rw [← h.le]; exact hR.e2
  have hna1 : na ≤ 30 := by rw [← h.la]; exact hR.a1
  have hac : ∀ a ∈ acts, actR ne a := by rw [← h.le]; exact hR.ac
  have hb0 : Below w.heap.size w ((w.alloc (.cells #[.slice Ae ne ce, .slice Aa na ca] 74)).alloc (.cells #[.slice At ne ct] 30)) := ((Below.refl _ _).alloc (Nat.le_refl _) _).alloc (by simp) _
  have k0 : ((w.alloc (.cells #[.slice Ae ne ce, .slice Aa na ca] 74)).alloc (.cells #[.slice At ne ct] 30)).heap[w.heap.size]? = some (.cells #[.slice Ae ne ce, .slice Aa na ca] 74 (0, 0)) := by
    rw [heapq_alloc, if_neg (by simp), heapq_alloc, if_pos rfl]
  have k1 : ((w.alloc (.cells #[.slice Ae ne ce, .slice Aa na ca] 74)).alloc (.cells #[.slice At ne ct] 30)).heap[w.heap.size + 1]? = some (.cells #[.slice At ne ct] 30 (0, 0)) := by
    rw [heapq_alloc, if_pos (by simp)]
  have hs := hb0.size
  have IB := IndexBroken_any _ Bt B Aa na ca ne acts h.la (by omega) (h.ra.below (hb0.mono hB)) (Nat.le_trans hB hs) hac _ At ct l hl k1 (ht.below (hb0.mono hBt)) (Nat.le_trans hBt hs) hr
  have HB := Lib.hid hb0
  clear hb0 ht h hR hac k1
  go_enter Try.func53, Try.ntmps53
  go_upto_region 1 with (fail)
  generalize ((w.alloc (.cells #[.slice Ae ne ce, .slice Aa na ca] 74)).alloc (.cells #[.slice At ne ct] 30)) = w0 at *
  obtain ⟨d0, d1⟩ := cells2 k0
  go_wp2_with (go_at_call 75; refine IB.mono ?_; rintro e w1 ⟨rfl, hb1⟩)
  go_ret
  exact ⟨rfl, HB.out.trans (hb1.mono hs)⟩
def CtPost (w : World) (V : Int) (e : Ending) (w' : World) : Prop := (if V < 0 then e = .returned (.tuple #[.int .i64 0, .int .i64 0]) else e = .returned (.tuple #[.int .i64 V, .int .i64 24])) ∧ Below w.heap.size w w'
set_option maxRecDepth 100000 in
set_option maxHeartbeats 4000000 in
/-- right times of a right net are accepted, or the first activity is told that they do not keep -/
theorem CheckTimes_any (w : World) (B : Nat) (Ae Aa : Option Addr) (ne ce na ca : Nat) (evs : List ByteArray) (acts : List Act) (h : NetAt w B Ae Aa ne ce na evs acts) (hB : B ≤ w.heap.size) (hR : NetR evs acts) (Bt : Nat) (At : Option Addr) (ct : Nat) (l : List Int) (hl : l.length = ne) (ht : Rd w Bt At (intCells l)) (hBt : Bt ≤ w.heap.size) (hr : ∀ t ∈ l, 0 ≤ t ∧ t ≤ 10000000) :
    Calls Try.prog 21 #[netV Ae ne ce Aa na ca, .slice At ne ct] w (CtPost w (idxGo (brokenB l) acts 0)) := by
  obtain ⟨V, hV⟩ : ∃ V, idxGo (brokenB l) acts 0 = V := ⟨_, rfl⟩
  have hne2 : ne ≤ 16 := by rw [← h.le]; exact hR.e2
  have OP := fun (W : World) (hb : Below w.heap.size w W) => open_right W B Ae Aa ne ce na ca evs acts (h.below (hb.mono hB)) (Nat.le_trans hB hb.size) hR
  have TE := fun (W : World) (hb : Below w.heap.size w W) => timesErr_right W Bt Ae ne ce Aa na ca At ct l (by omega) hl (ht.below (hb.mono hBt)) (Nat.le_trans hBt hb.size) hr
  have BK := fun (W : World) (hb : Below w.heap.size w W) => broken_any W B Ae Aa ne ce na ca evs acts (h.below (hb.mono hB)) (Nat.le_trans hB hb.size) hR Bt At ct l hl (ht.below (hb.mono hBt)) (Nat.le_trans hBt hb.size) hr
  rw [hV]
  simp only [hV] at BK
  have hb0 : Below w.heap.size w (w.alloc (.cells #[.slice Ae ne ce, .slice Aa na ca] 25)) := (Below.refl _ _).alloc (Nat.le_refl _) _
  have k0 : (w.alloc (.cells #[.slice Ae ne ce, .slice Aa na ca] 25)).heap[w.heap.size]? = some (.cells #[.slice Ae ne ce, .slice Aa na ca] 25 (0, 0)) := by rw [heapq_alloc, if_pos rfl]
  clear h ht hV
  unfold netV at OP ⊢
  unfold OpenPost at OP
  go_enter Try.func21, Try.ntmps21
  go_upto_region 1 with (fail)
  generalize w.alloc (.cells #[.slice Ae ne ce, .slice Aa na ca] 25) = w0 at *
  obtain ⟨d0, d1⟩ := cells2 k0
  go_upto_region 2 with (go_at_call 27; refine (OP _ hb0).mono ?_; rintro e w1 ⟨rfl, hb1⟩)
  have hbA := hb0.trans ((hb1.alloc hb1.size (.cells #[.slice Ae ne ce, .slice Aa na ca] 74)).mono hb0.size)
  have k4 : (w1.alloc (.cells #[.slice Ae ne ce, .slice Aa na ca] 74)).heap[w1.heap.size]? = some (.cells #[.slice Ae ne ce, .slice Aa na ca] 74 (0, 0)) := by rw [heapq_alloc, if_pos rfl]
  clear hb0 hb1 k0 d0 d1 OP
  generalize w1.alloc (.cells #[.slice Ae ne ce, .slice Aa na ca] 74) = w2 at *
  generalize w1.heap.size = g at *
  obtain ⟨d0, d1⟩ := cells2 k4
  have TE2 := TE w2 hbA
  go_upto_region 3 with (first | (go_at_call 29; refine TE2.mono ?_; rintro e w3 ⟨rfl, hb3⟩; have F2 := fun a b => first2 w3 a b) | (go_at_call 28; refine (F2 _ _).mono ?_; rintro e w' ⟨rfl, rfl⟩))
  have hbC := hbA.trans ((hb3.alloc hb3.size (.cells #[.int .i64 0, .int .i64 0] 31)).mono hbA.size)
  replace k4 := blk (hb3.alloc hb3.size (.cells #[.int .i64 0, .int .i64 0] 31)) k4
  clear hbA hb3 TE TE2 F2 d0 d1
  generalize w3.alloc (.cells #[.int .i64 0, .int .i64 0] 31) = w4 at *
  obtain ⟨d0, d1⟩ := cells2 k4
  have BK4 := BK w4 hbC
  have HBC := Lib.hid hbC
  have hsC := hbC.size
  clear BK hbC
  by_cases hv : V < 0
  · go_wp2_with (go_at_call 53; refine BK4.mono ?_; rintro e w5 ⟨rfl, hb5⟩)
    refine bodyPost_ret (v := .tuple #[.int .i64 0, .int .i64 0]) (by simp [results, Try.results21, go_sem]) rfl ⟨?_, HBC.out.trans (hb5.mono hsC)⟩
    rw [if_pos hv]
  · have hv' : 0 ≤ V := by omega
    go_wp2_with (go_at_call 53; refine BK4.mono ?_; rintro e w5 ⟨rfl, hb5⟩)
    refine bodyPost_ret (v := .tuple #[.int .i64 V, .int .i64 24]) (by simp [results, Try.results21, go_sem]) rfl ⟨?_, HBC.out.trans (hb5.mono hsC)⟩
    rw [if_neg (by omega)]
end Go.Proofs.Ytnnnpijepdjanaa
