/- The law: a timetable for the trains of a line. -/
import Derived.Test.YtnnnpijepdjanaaM5
namespace Go.Proofs.Ytnnnpijepdjanaa
open Go.RowKit

def svV (s : Sy) (As : Option Addr) (ns cs : Nat) (T : Int) : Value := .agg #[.int .i64 s.brake, .int .i64 s.drag, .int .i64 s.drive, .slice As ns cs, .int .i64 T]
structure TrG (x B : Nat) (nm : ByteArray) (Ap : Option Addr) (np cp : Nat) (pcs : List Pc) (s : Sy) (As : Option Addr) (ns cs : Nat) (l : List Int) (T : Int) (w W : World) : Prop where
  trk : Rd W B Ap (pcCells pcs)
  sq : Rd W B As (intCells l)
  bt : W.heap[x]? = some (.cells #[.string nm, .slice Ap np cp] 42 (0, 0))
  bs : W.heap[x + 1]? = some (.cells #[.int .i64 s.brake, .int .i64 s.drag, .int .i64 s.drive, .slice As ns cs, .int .i64 T] 46 (0, 0))
  low : Below w.heap.size w W
  hB : B ≤ W.heap.size
theorem TrG.below {x B : Nat} {nm : ByteArray} {Ap : Option Addr} {np cp : Nat} {pcs : List Pc} {s : Sy} {As : Option Addr} {ns cs : Nat} {l : List Int} {T : Int} {w W V : World} (h : TrG x B nm Ap np cp pcs s As ns cs l T w W) (hb : Below W.heap.size W V) : TrG x B nm Ap np cp pcs s As ns cs l T w V :=
  ⟨h.trk.below (hb.mono h.hB), h.sq.below (hb.mono h.hB), blk hb h.bt, blk hb h.bs, h.low.trans (hb.mono h.low.size), Nat.le_trans h.hB hb.size⟩
theorem ti_split {w w' : World} {pcs : List Pc} {l : List Int} {np : Nat} {e : Ending} (h : TiPost w pcs l np e w') : ∃ lo hi t : Int, e = .returned (.tuple #[.agg #[.int .i64 lo, .int .i64 hi], .int .i64 t]) ∧ ((t = 0 ∧ hi = tH pcs l np ∧ PosTo l np) ∨ t = 11) ∧ Below w.heap.size w w' := by
  obtain ⟨⟨lo, rfl, hp⟩ | rfl, hb⟩ := h
  · exact ⟨lo, _, 0, rfl, .inl ⟨rfl, rfl, hp⟩, hb⟩
  · exact ⟨0, 0, 11, rfl, .inr rfl, hb⟩
theorem cs_split {w w' : World} {pcs : List Pc} {s : Sy} {l : List Int} {np : Nat} {e : Ending} (h : CsPost w pcs s np l e w') : ∃ a t : Int, e = .returned (.tuple #[.int .i64 a, .int .i64 t]) ∧ ((t = 0 ∧ RunTo pcs s l (np + 1)) ∨ t = 24) ∧ Below w.heap.size w w' := by
  obtain ⟨⟨a, rfl, hp⟩ | ⟨a, rfl⟩, hb⟩ := h
  · exact ⟨a, 0, rfl, .inl ⟨rfl, hp⟩, hb⟩
  · exact ⟨a, 24, rfl, .inr rfl, hb⟩
def RtR (wr : World) (pcs : List Pc) (l : List Int) (np : Nat) (u11 u12 : Value) (wc : World) : Prop :=
  ∃ (g : Nat) (lo hi t : Int), u11 = .pointer (some ⟨g, 0, none⟩) ∧ u12 = .int .i64 t ∧ wc.heap[g]? = some (.cells #[.int .i64 lo, .int .i64 hi] 54 (0, 0)) ∧ wr.heap.size ≤ g ∧ ((t = 0 ∧ hi = tH pcs l np ∧ PosTo l np) ∨ t = 11) ∧ Below wr.heap.size wr wc
set_option maxRecDepth 100000 in
set_option maxHeartbeats 16000000 in
theorem Trains_all (w : World) (B : Nat) (nm : ByteArray) (Ap : Option Addr) (np cp : Nat) (pcs : List Pc) (s : Sy) (As : Option Addr) (ns cs : Nat) (l : List Int) (T : Int) (hlp : pcs.length = np) (hls : l.length = ns) (ht : Rd w B Ap (pcCells pcs)) (hq : Rd w B As (intCells l)) (hcp : np ≤ cp) (hB : B ≤ w.heap.size) :
    Calls Try.prog 4 #[trackV nm Ap np cp, svV s As ns cs T] w fun e w' => e = .returned (.bool true) ∧ Below w.heap.size w w' := by
  have AW := fun W => Awake_any W
  have hb0 : Below w.heap.size w ((w.alloc (.cells #[.string nm, .slice Ap np cp] 42)).alloc (.cells #[.int .i64 s.brake, .int .i64 s.drag, .int .i64 s.drive, .slice As ns cs, .int .i64 T] 46)) := ((Below.refl _ _).alloc (Nat.le_refl _) _).alloc (by simp) _
  have G0 : TrG w.heap.size B nm Ap np cp pcs s As ns cs l T w ((w.alloc (.cells #[.string nm, .slice Ap np cp] 42)).alloc (.cells #[.int .i64 s.brake, .int .i64 s.drag, .int .i64 s.drive, .slice As ns cs, .int .i64 T] 46)) := ⟨ht.below (hb0.mono hB), hq.below (hb0.mono hB), by rw [heapq_alloc, if_neg (by simp), heapq_alloc, if_pos rfl], by rw [heapq_alloc, if_pos (by simp)], hb0, Nat.le_trans hB hb0.size⟩
  have HLP := Lib.hid hlp
  have HLS := Lib.hid hls
  have HCP := Lib.hid hcp
  clear hlp hls hcp ht hq hB hb0
  unfold trackV svV
  go_enter Try.func4, Try.ntmps4
  go_upto_region 1 with (fail)
  generalize ((w.alloc (.cells #[.string nm, .slice Ap np cp] 42)).alloc (.cells #[.int .i64 s.brake, .int .i64 s.drag, .int .i64 s.drive, .slice As ns cs, .int .i64 T] 46)) = w0 at *
  go_upto_region 3 with (go_at_call 5; refine (AW _).mono ?_; rintro e w1 ⟨rfl, hb1⟩)
  have G1 := G0.below hb1
  clear G0 hb1 AW
  obtain ⟨a0, a1⟩ := cells2 G1.bt
  obtain ⟨b0, b1, b2, b3, b4⟩ := cells5y G1.bs
  have HL1 := Lib.hid G1.low
  by_cases c1 : (5 : Int) < (np : Int)
  case pos =>
    clear G1
    go_wp2
    go_ret
    exact ⟨rfl, HL1.out⟩
  by_cases c2 : (20 : Int) < (nm.size : Int)
  case pos =>
    clear G1
    go_wp2
    go_ret
    exact ⟨rfl, HL1.out⟩
  by_cases c3 : (8 : Int) < (ns : Int)
  case pos =>
    clear G1
    go_wp2
    go_ret
    exact ⟨rfl, HL1.out⟩
  have hnp5 : np ≤ 5 := by omega
  have hnm : nm.size ≤ 20 := by omega
  have hns8 : ns ≤ 8 := by omega
  have BE := BothErr_any w1 B nm Ap np cp pcs s HLP.out G1.trk G1.hB (by omega) (by omega)
  have SE := fun (W : World) (h : TrG w.heap.size B nm Ap np cp pcs s As ns cs l T w W) => SquaresErr_any W B nm Ap np cp As ns cs l HLS.out h.sq h.hB (by omega) (by omega)
  unfold trackV at BE SE
  unfold syV at BE
  clear HL1
  go_wp2_with (go_at_call 13; refine stp ?_)
  unfold Stp
  refine BE.mono ?_
  rintro e w2 ⟨E1, rfl, hb2, hE1⟩
  have G2 := G1.below hb2
  clear G1 a0 a1 b0 b1 b2 b3 b4 BE hb2
  obtain ⟨a0, a1⟩ := cells2 G2.bt
  obtain ⟨b0, b1, b2, b3, b4⟩ := cells5y G2.bs
  have HL2 := Lib.hid G2.low
  by_cases hv : E1 = 0
  case neg =>
    have hv' : (E1 != 0) = true := bne_iff_ne.2 hv
    clear G2 SE
    go_wp2
    go_ret
    exact ⟨rfl, HL2.out⟩
  obtain ⟨hTR, hSR⟩ := hE1 hv
  have HTR := Lib.hid hTR
  have HSR := Lib.hid hSR
  subst hv
  have SE2 := SE w2 G2
  clear hE1 HL2 hTR hSR
  go_wp2_with (go_at_call 14; refine stp ?_)
  unfold Stp
  refine SE2.mono ?_
  rintro e w3 ⟨E2, rfl, hb3, hE2⟩
  have G3 := G2.below hb3
  clear G2 a0 a1 b0 b1 b2 b3 b4 SE2 hb3
  obtain ⟨a0, a1⟩ := cells2 G3.bt
  obtain ⟨b0, b1, b2, b3, b4⟩ := cells5y G3.bs
  have HL3 := Lib.hid G3.low
  by_cases hv : E2 = 0
  case neg =>
    have hv' : (E2 != 0) = true := bne_iff_ne.2 hv
    clear G3 SE
    go_wp2
    go_ret
    exact ⟨rfl, HL3.out⟩
  have HSQ := Lib.hid (hE2.1 hv)
  subst hv
  clear hE2
  cases hT : withinB T 0 100000 with
  | false =>
    have WI := fun W => Within_val T 0 100000 false hT W
    clear G3 SE
    go_wp2_with (go_at_call 15; refine (WI _).mono ?_; rintro e w' ⟨rfl, rfl⟩)
    go_ret
    exact ⟨rfl, HL3.out⟩
  | true =>
  have WI := fun W => Within_val T 0 100000 true hT W
  have hT2 : 0 ≤ T ∧ T ≤ 100000 := by simpa [withinB] using hT
  have HT := Lib.hid hT2
  have hns : (ns : Int) = np + 1 := by have := HSQ.out.1; have := HLS.out; omega
  obtain ⟨q0, hq0⟩ : ∃ q0, l[0]? = some q0 := ⟨_, List.getElem?_eq_getElem (by have := HSQ.out.1; omega)⟩
  obtain ⟨qn, hqn⟩ : ∃ qn, l[np]? = some qn := ⟨_, List.getElem?_eq_getElem (by have := HSQ.out.1; omega)⟩
  obtain ⟨ba, oa, hAs, hba, e0⟩ := G3.sq 0 (.int .i64 q0) (by simp [intCells, hq0])
  obtain ⟨ba', oa', hAs', _, e9⟩ := G3.sq np (.int .i64 qn) (by simp [intCells, hqn])
  subst hAs
  cases hAs'
  have HNS := Lib.hid hns
  have hn1 : 1 ≤ ns := by omega
  clear hT hT2
  go_upto_region 5 with (go_at_call 15; refine (WI _).mono ?_; rintro e w' ⟨rfl, rfl⟩)
  simp only [Nat.add_zero] at e0
  have hnn : np = ns - 1 := by omega
  rw [hnn] at e9
  clear hnn hns
  by_cases hz0 : q0 = 0
  case neg =>
    have hz : (q0 != 0) = true := bne_iff_ne.2 hz0
    clear G3 SE WI
    go_wp2
    go_ret
    exact ⟨rfl, HL3.out⟩
  subst hz0
  by_cases hzn : qn = 0
  case neg =>
    have hz : (qn != 0) = true := bne_iff_ne.2 hzn
    clear G3 SE WI
    go_wp2
    go_ret
    exact ⟨rfl, HL3.out⟩
  subst hzn
  go_upto_region 7 with (fail)
  have HQ0 := Lib.hid hq0
  have HQN := Lib.hid hqn
  clear hq0 hqn e0 e9 WI hba
  generalize (some ⟨ba, oa, none⟩ : Option Addr) = As at *
  have hbd : Below w3.heap.size w3 w3.drew := (Below.refl _ _).drew
  have x0 := fun x : Xt w3 => x.cell a0
  have x1 := fun x : Xt w3 => x.cell a1
  have y0 := fun x : Xt w3 => x.cell b0
  have y1 := fun x : Xt w3 => x.cell b1
  have y2 := fun x : Xt w3 => x.cell b2
  have y3 := fun x : Xt w3 => x.cell b3
  have y4 := fun x : Xt w3 => x.cell b4
  have TC := fun (W : World) (h : Rd W B Ap (pcCells pcs)) (hB : B ≤ W.heap.size) => trkCopy_cap W B nm Ap np cp pcs HLP.out (by omega) h hB
  have FA := fun (W : World) (A : Option Addr) (c : Nat) (h : Rd W W.heap.size A (pcCells pcs)) (hc : np ≤ c) => Fastest_any W W.heap.size A np c nm pcs s ⟨HLP.out, h, HTR.out, by omega⟩ (Nat.le_refl _) hc HSR.out
  unfold trackV at TC FA
  unfold syV at FA
  have G4 := G3.below hbd
  refine wp_region_eager [10] (fun w' => ∃ x : Xt w3, w' = x.1) (by kernel_rfl) ⟨⟨w3.drew, hbd⟩, rfl⟩ ?_
  refine wpE_reads5 [0, 2, 3, 4] 7 rfl (by kernel_rfl) ?_
  simp only [opsAt_nil, opsAt_cons, consOpt_some, List.getElem?_toArray, List.getElem?_cons_zero, List.getElem?_cons_succ]
  repeat (go_big_quiet_step (fail))
  refine wpQuiet_nil ?_
  show wpE _ _ _ _ _ _ _ _ _ w3.drew
  generalize w3.drew = wd at *
  refine wpE_one (i := 1) rfl (by kernel_rfl) rfl ?_
  unfold wpMid
  simp only [opsAt_nil, opsAt_cons, consOpt_some, List.getElem?_toArray, List.getElem?_cons_zero, List.getElem?_cons_succ]
  go_wp2_with (go_at_call 17; refine (TC _ G4.trk G4.hB).mono ?_; rintro e w5 ⟨A1, c1, rfl, hc1, hr1, hb5⟩)
  have hbe := hbd.trans (hb5.mono hbd.size)
  refine onlyNormal_mk ⟨⟨⟨_, hbe⟩, rfl⟩, ?_⟩
  refine wpE_one (i := 5) rfl (by kernel_rfl) rfl ?_
  unfold wpMid
  simp only [opsAt_nil, opsAt_cons, consOpt_some, List.getElem?_toArray, List.getElem?_cons_zero, List.getElem?_cons_succ]
  go_wp2_with (go_at_call 16; refine stp ?_)
  unfold Stp
  refine (FA _ _ _ hr1 hc1).mono ?_
  rintro e w6 ⟨hF, hb6⟩
  have hbf := hbe.trans (hb6.mono hbe.size)
  have G6 := G3.below hbf
  clear G4 hb5 hbd hbe hb6 hr1 TC FA G3 HL3
  rcases hF with ⟨A2, c2, rfl, hr2, hf2⟩ | rfl
  case inr =>
    have HL6 := Lib.hid G6.low
    clear G6 SE
    go_wp2
    refine onlyNormal_mk ⟨⟨⟨_, hbf⟩, rfl⟩, ?_⟩
    clear x0 x1 y0 y1 y2 y3 y4 hbf a0 a1 b0 b1 b2 b3 b4
    refine wpE_reads [6, 7, 8, 9] 1 rfl (by kernel_rfl) ?_
    simp only [opsAt_nil, opsAt_cons, consOpt_some, List.getElem?_toArray, List.getElem?_cons_zero, List.getElem?_cons_succ]
    repeat (go_big_quiet_step (fail))
    refine wpQuiet_nil ?_
    refine wpE_tail rfl (by kernel_rfl) ?_
    simp only [opsAt_nil, opsAt_cons, consOpt_some, List.getElem?_toArray, List.getElem?_cons_zero, List.getElem?_cons_succ]
    go_wp2
    refine onlyNormal_mk ?_
    go_wp2
    go_ret
    exact ⟨rfl, HL6.out⟩
  go_wp2
  refine onlyNormal_mk ⟨⟨⟨_, hbf⟩, rfl⟩, ?_⟩
  clear x0 x1 y0 y1 y2 y3 y4 hbf a0 a1 b0 b1 b2 b3 b4
  refine wpE_reads [6, 7, 8, 9] 1 rfl (by kernel_rfl) ?_
  simp only [opsAt_nil, opsAt_cons, consOpt_some, List.getElem?_toArray, List.getElem?_cons_zero, List.getElem?_cons_succ]
  repeat (go_big_quiet_step (fail))
  refine wpQuiet_nil ?_
  refine wpE_tail rfl (by kernel_rfl) ?_
  simp only [opsAt_nil, opsAt_cons, consOpt_some, List.getElem?_toArray, List.getElem?_cons_zero, List.getElem?_cons_succ]
  have HP := Lib.hid HTR.out.p
  have h1n : 1 ≤ np := by have := HTR.out.l1; have := HLP.out; omega
  have hSF : SqR np (fsL pcs s) := fsL_right HLP.out h1n HP.out hf2
  have HSF := Lib.hid hSF
  have hlf : (fsL pcs s).length = np + 1 := hSF.1
  generalize hfl : fsL pcs s = fl at *
  obtain ⟨m, hm⟩ : ∃ m, m = np + 1 := ⟨_, rfl⟩
  rw [← hm] at hlf
  have hmi : ((np : Nat) : Int) + 1 = m := by omega
  have SF := SquaresErr_any w6 w6.heap.size nm Ap np cp A2 m c2 fl hlf hr2 (Nat.le_refl _) (by omega) (by omega)
  unfold trackV at SF
  obtain ⟨a0, a1⟩ := cells2 G6.bt
  obtain ⟨b0, b1, b2, b3, b4⟩ := cells5y G6.bs
  rw [← hm]
  have HM := Lib.hid hm
  have HLF := Lib.hid hlf
  have HFL := Lib.hid hfl
  clear hm hlf hf2 hfl hSF
  go_wp2
  refine onlyNormal_mk ?_
  go_wp2_with (go_at_call 14; refine stp ?_)
  unfold Stp
  refine SF.mono ?_
  rintro e w7 ⟨E3, rfl, hb7, hE3⟩
  obtain rfl : E3 = 0 := hE3.2 HSF.out
  have G7 := G6.below hb7
  have hr7 := (hr2.below hb7).mono hb7.size
  clear hE3 SF SE hr2 hb7 a0 a1 b0 b1 b2 b3 b4 G6
  obtain ⟨a0, a1⟩ := cells2 G7.bt
  obtain ⟨b0, b1, b2, b3, b4⟩ := cells5y G7.bs
  go_upto_region 10 with (fail)
  have hlf : fl.length = m := HLF.out
  have TC := fun (W : World) (h : Rd W B Ap (pcCells pcs)) (hB : B ≤ W.heap.size) => trkCopy_cap W B nm Ap np cp pcs HLP.out (by omega) h hB
  have CI := fun (W : World) (h : Rd W W.heap.size A2 (intCells fl)) => CopyInts_any W W.heap.size A2 m c2 fl hlf (by omega) h (Nat.le_refl _)
  have TI := fun (W : World) (A : Option Addr) (c : Nat) (h : Rd W W.heap.size A (pcCells pcs)) (A' : Option Addr) (c' : Nat) (h' : Rd W W.heap.size A' (intCells fl)) => (TimeOf_any W W.heap.size A np c nm pcs ⟨HLP.out, h, HTR.out, by omega⟩ (Nat.le_refl _) A' c' fl h' HSF.out).mono fun e w' hp => ti_split hp
  rw [← HM.out] at TI
  unfold trackV at TC TI
  have HLF := Lib.hid hlf
  clear hlf
  go_upto_region 11 with (first | (go_at_call 17; refine (TC _ G7.trk G7.hB).mono ?_; rintro e w8 ⟨A3, c3, rfl, -, hr3, hb8⟩; have G8 := G7.below hb8; have hr8 := (hr7.below hb8).mono hb8.size) | (go_at_call 11; refine (CI _ hr8).mono ?_; rintro e w9 ⟨A4, c4, rfl, hr4, hb9⟩; have G9 := G8.below hb9; have hr9 := (hr3.below hb9).mono hb9.size) | (go_at_call 18; refine (TI _ _ _ hr9 _ _ hr4).mono ?_; rintro e w10 ⟨lo1, h1, t1, rfl, ht1, hb10⟩; have G10 := G9.below hb10))
  have hbA : Below w10.heap.size w10 (w10.alloc (.cells #[.int .i64 lo1, .int .i64 h1] 54)) := (Below.refl _ _).alloc (Nat.le_refl _) _
  have k7 : (w10.alloc (.cells #[.int .i64 lo1, .int .i64 h1] 54)).heap[w10.heap.size]? = some (.cells #[.int .i64 lo1, .int .i64 h1] 54 (0, 0)) := by rw [heapq_alloc, if_pos rfl]
  have G11 := G10.below hbA
  clear G7 G8 G9 G10 hr7 hr8 hr9 hr3 hr4 hb8 hb9 hb10 hbA CI TI a0 a1 b0 b1 b2 b3 b4
  generalize w10.alloc (.cells #[.int .i64 lo1, .int .i64 h1] 54) = w11 at *
  generalize w10.heap.size = g7 at *
  have HT1 := Lib.hid ht1
  clear ht1
  have hns1 : np + 1 = ns := by have := HNS.out; omega
  have CQ := fun (W : World) (h : TrG w.heap.size B nm Ap np cp pcs s As ns cs l T w W) => CopyInts_any W B As ns cs l HLS.out (by omega) h.sq h.hB
  have CS := fun (W : World) (A : Option Addr) (c : Nat) (h : Rd W W.heap.size A (pcCells pcs)) (hc : np ≤ c) (A' : Option Addr) (c' : Nat) (h' : Rd W W.heap.size A' (intCells l)) => (CheckSquares_any W W.heap.size A np c nm pcs s ⟨HLP.out, h, HTR.out, by omega⟩ (Nat.le_refl _) hc HSR.out A' c' l h' HSQ.out).mono fun e w' hp => cs_split hp
  have TQ := fun (W : World) (A : Option Addr) (c : Nat) (h : Rd W W.heap.size A (pcCells pcs)) (A' : Option Addr) (c' : Nat) (h' : Rd W W.heap.size A' (intCells l)) => (TimeOf_any W W.heap.size A np c nm pcs ⟨HLP.out, h, HTR.out, by omega⟩ (Nat.le_refl _) A' c' l h' HSQ.out).mono fun e w' hp => ti_split hp
  rw [hns1] at CS TQ
  have HNS1 := Lib.hid hns1
  unfold trackV at CS TQ
  unfold syV at CS
  clear hns1
  obtain ⟨a0, a1⟩ := cells2 G11.bt
  obtain ⟨b0, b1, b2, b3, b4⟩ := cells5y G11.bs
  have hbd : Below w11.heap.size w11 w11.drew := (Below.refl _ _).drew
  have x0 := fun x : Xt w11 => x.cell a0
  have x1 := fun x : Xt w11 => x.cell a1
  have y0 := fun x : Xt w11 => x.cell b0
  have y1 := fun x : Xt w11 => x.cell b1
  have y2 := fun x : Xt w11 => x.cell b2
  have y3 := fun x : Xt w11 => x.cell b3
  have y4 := fun x : Xt w11 => x.cell b4
  have G12 := G11.below hbd
  refine wp_region_eager [12] (fun w' => ∃ x : Xt w11, w' = x.1) (by kernel_rfl) ⟨⟨w11.drew, hbd⟩, rfl⟩ ?_
  refine wpE_reads5 [0, 2, 3, 4, 5] 8 rfl (by kernel_rfl) ?_
  simp only [opsAt_nil, opsAt_cons, consOpt_some, List.getElem?_toArray, List.getElem?_cons_zero, List.getElem?_cons_succ]
  repeat (go_big_quiet_step (fail))
  refine wpQuiet_nil ?_
  show wpE _ _ _ _ _ _ _ _ _ w11.drew
  generalize w11.drew = wd at *
  refine wpE_one (i := 1) rfl (by kernel_rfl) rfl ?_
  unfold wpMid
  simp only [opsAt_nil, opsAt_cons, consOpt_some, List.getElem?_toArray, List.getElem?_cons_zero, List.getElem?_cons_succ]
  go_wp2_with (go_at_call 17; refine (TC _ G12.trk G12.hB).mono ?_; rintro e w13 ⟨A5, c5, rfl, hc5, hr5, hb13⟩)
  have G13 := G12.below hb13
  have hbe := hbd.trans (hb13.mono hbd.size)
  refine onlyNormal_mk ⟨⟨⟨_, hbe⟩, rfl⟩, ?_⟩
  refine wpE_one (i := 6) rfl (by kernel_rfl) rfl ?_
  unfold wpMid
  simp only [opsAt_nil, opsAt_cons, consOpt_some, List.getElem?_toArray, List.getElem?_cons_zero, List.getElem?_cons_succ]
  go_wp2_with (go_at_call 11; refine (CQ _ G13).mono ?_; rintro e w14 ⟨A6, c6, rfl, hr6, hb14⟩)
  have G14 := G13.below hb14
  have hbf := hbe.trans (hb14.mono hbe.size)
  replace hr5 := (hr5.below hb14).mono hb14.size
  refine onlyNormal_mk ⟨⟨⟨_, hbf⟩, rfl⟩, ?_⟩
  refine wpE_one (i := 7) rfl (by kernel_rfl) rfl ?_
  unfold wpMid
  simp only [opsAt_nil, opsAt_cons, consOpt_some, List.getElem?_toArray, List.getElem?_cons_zero, List.getElem?_cons_succ]
  go_wp2_with (go_at_call 19; refine (CS _ _ _ hr5 hc5 _ _ hr6).mono ?_; rintro e w15 ⟨z1, t2, rfl, ht2, hb15⟩)
  have G15 := G14.below hb15
  have hbg := hbf.trans (hb15.mono hbf.size)
  refine onlyNormal_mk ⟨⟨⟨_, hbg⟩, rfl⟩, ?_⟩
  replace k7 := blk hbg k7
  clear x0 x1 y0 y1 y2 y3 y4 hbf a0 a1 b0 b1 b2 b3 b4 hbd hbe hbg hb13 hb14 hb15 G11 G12 G13 G14 hr5 hr6 CS
  have HT2 := Lib.hid ht2
  clear ht2
  refine wpE_reads [8, 9, 10, 11] 1 rfl (by kernel_rfl) ?_
  simp only [opsAt_nil, opsAt_cons, consOpt_some, List.getElem?_toArray, List.getElem?_cons_zero, List.getElem?_cons_succ]
  repeat (go_big_quiet_step (fail))
  refine wpQuiet_nil ?_
  refine wpE_tail rfl (by kernel_rfl) ?_
  simp only [opsAt_nil, opsAt_cons, consOpt_some, List.getElem?_toArray, List.getElem?_cons_zero, List.getElem?_cons_succ]
  go_wp2
  refine onlyNormal_mk ?_
  go_upto_region 12 with (fail)
  obtain ⟨a0, a1⟩ := cells2 G15.bt
  obtain ⟨b0, b1, b2, b3, b4⟩ := cells5y G15.bs
  go_cut [11, 12] from 118 to 126 (fun s11 s12 wc => RtR w15 pcs l np s11 s12 wc)
  case first =>
    have hbx : Below w15.heap.size w15 w15.drew := (Below.refl _ _).drew
    have x0 := fun x : Xt w15 => x.cell a0
    have x1 := fun x : Xt w15 => x.cell a1
    have y3 := fun x : Xt w15 => x.cell b3
    have GX := G15.below hbx
    refine wp_region_eager [11] (fun w' => ∃ x : Xt w15, w' = x.1) (by kernel_rfl) ⟨⟨w15.drew, hbx⟩, rfl⟩ ?_
    refine wpE_reads5 [0, 2, 3] 9 rfl (by kernel_rfl) ?_
    simp only [opsAt_nil, opsAt_cons, consOpt_some, List.getElem?_toArray, List.getElem?_cons_zero, List.getElem?_cons_succ]
    repeat (go_big_quiet_step (fail))
    refine wpQuiet_nil ?_
    show wpE _ _ _ _ _ _ _ _ _ w15.drew
    clear x0 x1 y3 a0 a1 b0 b1 b2 b3 b4 G15 k7
    generalize w15.drew = vv at *
    refine wpE_two (i := 1) (k := 9) rfl (by kernel_rfl) rfl rfl ?_ ?_
    · unfold wpMid
      simp only [opsAt_nil, opsAt_cons, consOpt_some, List.getElem?_toArray, List.getElem?_cons_zero, List.getElem?_cons_succ]
      go_wp2_with (go_at_call 17; refine (TC _ GX.trk GX.hB).mono ?_; rintro e vy ⟨A7, c7, rfl, -, hr7, hby⟩)
      replace GX := GX.below hby
      replace hbx := hbx.trans (hby.mono hbx.size)
      clear hby
      refine onlyNormal_mk ⟨⟨⟨_, hbx⟩, rfl⟩, ?_⟩
      generalize vy = vv at *
      refine wpE_two (i := 4) (k := 9) rfl (by kernel_rfl) rfl rfl ?_ ?_
      · unfold wpMid
        simp only [opsAt_nil, opsAt_cons, consOpt_some, List.getElem?_toArray, List.getElem?_cons_zero, List.getElem?_cons_succ]
        go_wp2_with (go_at_call 11; refine (CQ _ GX).mono ?_; rintro e vy ⟨A8, c8, rfl, hr8, hby⟩)
        replace GX := GX.below hby
        replace hbx := hbx.trans (hby.mono hbx.size)
        replace hr7 := (hr7.below hby).mono hby.size
        clear hby
        refine onlyNormal_mk ⟨⟨⟨_, hbx⟩, rfl⟩, ?_⟩
        generalize vy = vv at *
        refine wpE_two (i := 5) (k := 9) rfl (by kernel_rfl) rfl rfl ?_ ?_
        · unfold wpMid
          simp only [opsAt_nil, opsAt_cons, consOpt_some, List.getElem?_toArray, List.getElem?_cons_zero, List.getElem?_cons_succ]
          go_wp2_with (go_at_call 18; refine (TQ _ _ _ hr7 _ _ hr8).mono ?_; rintro e vy ⟨lo3, h3, t3, rfl, ht3, hby⟩)
          replace GX := GX.below hby
          replace hbx := hbx.trans (hby.mono hbx.size)
          clear hr7 hr8
          clear hby
          refine onlyNormal_mk ⟨⟨⟨_, hbx⟩, rfl⟩, ?_⟩
          generalize vy = vv at *
          refine wpE_reads [6, 7, 8] 3 rfl (by kernel_rfl) ?_
          simp only [opsAt_nil, opsAt_cons, consOpt_some, List.getElem?_toArray, List.getElem?_cons_zero, List.getElem?_cons_succ]
          repeat (go_big_quiet_step (fail))
          refine wpQuiet_nil ?_
          refine wpE_one (i := 9) rfl (by kernel_rfl) rfl ?_
          unfold wpMid
          simp only [opsAt_nil, opsAt_cons, consOpt_some, List.getElem?_toArray, List.getElem?_cons_zero, List.getElem?_cons_succ]
          go_wp2
          have k9 : (vv.alloc (.cells #[.int .i64 0, .int .i64 0] 54)).heap[vv.heap.size]? = some (.cells #[.int .i64 0, .int .i64 0] 54 (0, 0)) := by rw [heapq_alloc, if_pos rfl]
          have hby : Below vv.heap.size vv (vv.alloc (.cells #[.int .i64 0, .int .i64 0] 54)) := (Below.refl _ _).alloc (Nat.le_refl _) _
          have hg9 : w15.heap.size ≤ vv.heap.size := hbx.size
          replace GX := GX.below hby
          replace hbx := hbx.trans (hby.mono hbx.size)
          clear hby
          generalize vv.alloc (.cells #[.int .i64 0, .int .i64 0] 54) = vy at *
          generalize vv.heap.size = g9 at *
          refine onlyNormal_mk ⟨⟨⟨_, hbx⟩, rfl⟩, ?_⟩
          generalize vy = vv at *
          have HTT := Lib.hid ht3
          have hgx := Lib.hid hg9
          refine wpE_one (i := 10) rfl (by kernel_rfl) rfl ?_
          unfold wpMid
          simp only [opsAt_nil, opsAt_cons, consOpt_some, List.getElem?_toArray, List.getElem?_cons_zero, List.getElem?_cons_succ]
          obtain ⟨p0, p1, f0, f1⟩ := res2 k9
          have k10 : ((vv.setCell ⟨g9, 0, none⟩ (.int .i64 lo3)).setCell ⟨g9, 1, none⟩ (.int .i64 h3)).heap[g9]? = some (.cells #[.int .i64 lo3, .int .i64 h3] 54 (0, 0)) := by
            simp only [heapq_set, if_pos, k9, Option.map_some]
            rfl
          have hbz : Below w15.heap.size w15 ((vv.setCell ⟨g9, 0, none⟩ (.int .i64 lo3)).setCell ⟨g9, 1, none⟩ (.int .i64 h3)) := (hbx.setCell (p := ⟨g9, 0, none⟩) hg9 _).setCell (p := ⟨g9, 1, none⟩) hg9 _
          have HK10 := Lib.hid k10
          clear k9 k10 ht3
          go_wp2
          refine onlyNormal_mk ⟨⟨⟨_, hbz⟩, rfl⟩, ?_⟩
          refine wpE_tail rfl (by kernel_rfl) ?_
          simp only [opsAt_nil, opsAt_cons, consOpt_some, List.getElem?_toArray, List.getElem?_cons_zero, List.getElem?_cons_succ]
          go_wp2
          refine onlyNormal_mk ?_
          go_wp2_with fail
          go_meet
          exact ⟨g9, lo3, h3, t3, rfl, rfl, HK10.out, hgx.out, HTT.out, hbz⟩
        · unfold wpMid
          simp only [opsAt_nil, opsAt_cons, consOpt_some, List.getElem?_toArray, List.getElem?_cons_zero, List.getElem?_cons_succ]
          go_wp2
          have k9 : (vv.alloc (.cells #[.int .i64 0, .int .i64 0] 54)).heap[vv.heap.size]? = some (.cells #[.int .i64 0, .int .i64 0] 54 (0, 0)) := by rw [heapq_alloc, if_pos rfl]
          have hby : Below vv.heap.size vv (vv.alloc (.cells #[.int .i64 0, .int .i64 0] 54)) := (Below.refl _ _).alloc (Nat.le_refl _) _
          have hg9 : w15.heap.size ≤ vv.heap.size := hbx.size
          replace GX := GX.below hby
          replace hbx := hbx.trans (hby.mono hbx.size)
          replace hr7 := (hr7.below hby).mono hby.size
          replace hr8 := (hr8.below hby).mono hby.size
          clear hby
          generalize vv.alloc (.cells #[.int .i64 0, .int .i64 0] 54) = vy at *
          generalize vv.heap.size = g9 at *
          refine onlyNormal_mk ⟨⟨⟨_, hbx⟩, rfl⟩, ?_⟩
          generalize vy = vv at *
          refine wpE_one (i := 5) rfl (by kernel_rfl) rfl ?_
          unfold wpMid
          simp only [opsAt_nil, opsAt_cons, consOpt_some, List.getElem?_toArray, List.getElem?_cons_zero, List.getElem?_cons_succ]
          go_wp2_with (go_at_call 18; refine (TQ _ _ _ hr7 _ _ hr8).mono ?_; rintro e vy ⟨lo3, h3, t3, rfl, ht3, hby⟩)
          replace GX := GX.below hby
          replace hbx := hbx.trans (hby.mono hbx.size)
          clear hr7 hr8
          replace k9 := blk hby k9
          clear hby
          refine onlyNormal_mk ⟨⟨⟨_, hbx⟩, rfl⟩, ?_⟩
          generalize vy = vv at *
          have HTT := Lib.hid ht3
          have hgx := Lib.hid hg9
          refine wpE_reads [6, 7, 8] 2 rfl (by kernel_rfl) ?_
          simp only [opsAt_nil, opsAt_cons, consOpt_some, List.getElem?_toArray, List.getElem?_cons_zero, List.getElem?_cons_succ]
          repeat (go_big_quiet_step (fail))
          refine wpQuiet_nil ?_
          refine wpE_one (i := 10) rfl (by kernel_rfl) rfl ?_
          unfold wpMid
          simp only [opsAt_nil, opsAt_cons, consOpt_some, List.getElem?_toArray, List.getElem?_cons_zero, List.getElem?_cons_succ]
          obtain ⟨p0, p1, f0, f1⟩ := res2 k9
          have k10 : ((vv.setCell ⟨g9, 0, none⟩ (.int .i64 lo3)).setCell ⟨g9, 1, none⟩ (.int .i64 h3)).heap[g9]? = some (.cells #[.int .i64 lo3, .int .i64 h3] 54 (0, 0)) := by
            simp only [heapq_set, if_pos, k9, Option.map_some]
            rfl
          have hbz : Below w15.heap.size w15 ((vv.setCell ⟨g9, 0, none⟩ (.int .i64 lo3)).setCell ⟨g9, 1, none⟩ (.int .i64 h3)) := (hbx.setCell (p := ⟨g9, 0, none⟩) hg9 _).setCell (p := ⟨g9, 1, none⟩) hg9 _
          have HK10 := Lib.hid k10
          clear k9 k10 ht3
          go_wp2
          refine onlyNormal_mk ⟨⟨⟨_, hbz⟩, rfl⟩, ?_⟩
          refine wpE_tail rfl (by kernel_rfl) ?_
          simp only [opsAt_nil, opsAt_cons, consOpt_some, List.getElem?_toArray, List.getElem?_cons_zero, List.getElem?_cons_succ]
          go_wp2
          refine onlyNormal_mk ?_
          go_wp2_with fail
          go_meet
          exact ⟨g9, lo3, h3, t3, rfl, rfl, HK10.out, hgx.out, HTT.out, hbz⟩
      · unfold wpMid
        simp only [opsAt_nil, opsAt_cons, consOpt_some, List.getElem?_toArray, List.getElem?_cons_zero, List.getElem?_cons_succ]
        go_wp2
        have k9 : (vv.alloc (.cells #[.int .i64 0, .int .i64 0] 54)).heap[vv.heap.size]? = some (.cells #[.int .i64 0, .int .i64 0] 54 (0, 0)) := by rw [heapq_alloc, if_pos rfl]
        have hby : Below vv.heap.size vv (vv.alloc (.cells #[.int .i64 0, .int .i64 0] 54)) := (Below.refl _ _).alloc (Nat.le_refl _) _
        have hg9 : w15.heap.size ≤ vv.heap.size := hbx.size
        replace GX := GX.below hby
        replace hbx := hbx.trans (hby.mono hbx.size)
        replace hr7 := (hr7.below hby).mono hby.size
        clear hby
        generalize vv.alloc (.cells #[.int .i64 0, .int .i64 0] 54) = vy at *
        generalize vv.heap.size = g9 at *
        refine onlyNormal_mk ⟨⟨⟨_, hbx⟩, rfl⟩, ?_⟩
        generalize vy = vv at *
        refine wpE_one (i := 4) rfl (by kernel_rfl) rfl ?_
        unfold wpMid
        simp only [opsAt_nil, opsAt_cons, consOpt_some, List.getElem?_toArray, List.getElem?_cons_zero, List.getElem?_cons_succ]
        go_wp2_with (go_at_call 11; refine (CQ _ GX).mono ?_; rintro e vy ⟨A8, c8, rfl, hr8, hby⟩)
        replace GX := GX.below hby
        replace hbx := hbx.trans (hby.mono hbx.size)
        replace hr7 := (hr7.below hby).mono hby.size
        replace k9 := blk hby k9
        clear hby
        refine onlyNormal_mk ⟨⟨⟨_, hbx⟩, rfl⟩, ?_⟩
        generalize vy = vv at *
        refine wpE_one (i := 5) rfl (by kernel_rfl) rfl ?_
        unfold wpMid
        simp only [opsAt_nil, opsAt_cons, consOpt_some, List.getElem?_toArray, List.getElem?_cons_zero, List.getElem?_cons_succ]
        go_wp2_with (go_at_call 18; refine (TQ _ _ _ hr7 _ _ hr8).mono ?_; rintro e vy ⟨lo3, h3, t3, rfl, ht3, hby⟩)
        replace GX := GX.below hby
        replace hbx := hbx.trans (hby.mono hbx.size)
        clear hr7 hr8
        replace k9 := blk hby k9
        clear hby
        refine onlyNormal_mk ⟨⟨⟨_, hbx⟩, rfl⟩, ?_⟩
        generalize vy = vv at *
        have HTT := Lib.hid ht3
        have hgx := Lib.hid hg9
        refine wpE_reads [6, 7, 8] 2 rfl (by kernel_rfl) ?_
        simp only [opsAt_nil, opsAt_cons, consOpt_some, List.getElem?_toArray, List.getElem?_cons_zero, List.getElem?_cons_succ]
        repeat (go_big_quiet_step (fail))
        refine wpQuiet_nil ?_
        refine wpE_one (i := 10) rfl (by kernel_rfl) rfl ?_
        unfold wpMid
        simp only [opsAt_nil, opsAt_cons, consOpt_some, List.getElem?_toArray, List.getElem?_cons_zero, List.getElem?_cons_succ]
        obtain ⟨p0, p1, f0, f1⟩ := res2 k9
        have k10 : ((vv.setCell ⟨g9, 0, none⟩ (.int .i64 lo3)).setCell ⟨g9, 1, none⟩ (.int .i64 h3)).heap[g9]? = some (.cells #[.int .i64 lo3, .int .i64 h3] 54 (0, 0)) := by
          simp only [heapq_set, if_pos, k9, Option.map_some]
          rfl
        have hbz : Below w15.heap.size w15 ((vv.setCell ⟨g9, 0, none⟩ (.int .i64 lo3)).setCell ⟨g9, 1, none⟩ (.int .i64 h3)) := (hbx.setCell (p := ⟨g9, 0, none⟩) hg9 _).setCell (p := ⟨g9, 1, none⟩) hg9 _
        have HK10 := Lib.hid k10
        clear k9 k10 ht3
        go_wp2
        refine onlyNormal_mk ⟨⟨⟨_, hbz⟩, rfl⟩, ?_⟩
        refine wpE_tail rfl (by kernel_rfl) ?_
        simp only [opsAt_nil, opsAt_cons, consOpt_some, List.getElem?_toArray, List.getElem?_cons_zero, List.getElem?_cons_succ]
        go_wp2
        refine onlyNormal_mk ?_
        go_wp2_with fail
        go_meet
        exact ⟨g9, lo3, h3, t3, rfl, rfl, HK10.out, hgx.out, HTT.out, hbz⟩
    · unfold wpMid
      simp only [opsAt_nil, opsAt_cons, consOpt_some, List.getElem?_toArray, List.getElem?_cons_zero, List.getElem?_cons_succ]
      go_wp2
      have k9 : (vv.alloc (.cells #[.int .i64 0, .int .i64 0] 54)).heap[vv.heap.size]? = some (.cells #[.int .i64 0, .int .i64 0] 54 (0, 0)) := by rw [heapq_alloc, if_pos rfl]
      have hby : Below vv.heap.size vv (vv.alloc (.cells #[.int .i64 0, .int .i64 0] 54)) := (Below.refl _ _).alloc (Nat.le_refl _) _
      have hg9 : w15.heap.size ≤ vv.heap.size := hbx.size
      replace GX := GX.below hby
      replace hbx := hbx.trans (hby.mono hbx.size)
      clear hby
      generalize vv.alloc (.cells #[.int .i64 0, .int .i64 0] 54) = vy at *
      generalize vv.heap.size = g9 at *
      refine onlyNormal_mk ⟨⟨⟨_, hbx⟩, rfl⟩, ?_⟩
      generalize vy = vv at *
      refine wpE_one (i := 1) rfl (by kernel_rfl) rfl ?_
      unfold wpMid
      simp only [opsAt_nil, opsAt_cons, consOpt_some, List.getElem?_toArray, List.getElem?_cons_zero, List.getElem?_cons_succ]
      go_wp2_with (go_at_call 17; refine (TC _ GX.trk GX.hB).mono ?_; rintro e vy ⟨A7, c7, rfl, -, hr7, hby⟩)
      replace GX := GX.below hby
      replace hbx := hbx.trans (hby.mono hbx.size)
      replace k9 := blk hby k9
      clear hby
      refine onlyNormal_mk ⟨⟨⟨_, hbx⟩, rfl⟩, ?_⟩
      generalize vy = vv at *
      refine wpE_one (i := 4) rfl (by kernel_rfl) rfl ?_
      unfold wpMid
      simp only [opsAt_nil, opsAt_cons, consOpt_some, List.getElem?_toArray, List.getElem?_cons_zero, List.getElem?_cons_succ]
      go_wp2_with (go_at_call 11; refine (CQ _ GX).mono ?_; rintro e vy ⟨A8, c8, rfl, hr8, hby⟩)
      replace GX := GX.below hby
      replace hbx := hbx.trans (hby.mono hbx.size)
      replace hr7 := (hr7.below hby).mono hby.size
      replace k9 := blk hby k9
      clear hby
      refine onlyNormal_mk ⟨⟨⟨_, hbx⟩, rfl⟩, ?_⟩
      generalize vy = vv at *
      refine wpE_one (i := 5) rfl (by kernel_rfl) rfl ?_
      unfold wpMid
      simp only [opsAt_nil, opsAt_cons, consOpt_some, List.getElem?_toArray, List.getElem?_cons_zero, List.getElem?_cons_succ]
      go_wp2_with (go_at_call 18; refine (TQ _ _ _ hr7 _ _ hr8).mono ?_; rintro e vy ⟨lo3, h3, t3, rfl, ht3, hby⟩)
      replace GX := GX.below hby
      replace hbx := hbx.trans (hby.mono hbx.size)
      clear hr7 hr8
      replace k9 := blk hby k9
      clear hby
      refine onlyNormal_mk ⟨⟨⟨_, hbx⟩, rfl⟩, ?_⟩
      generalize vy = vv at *
      have HTT := Lib.hid ht3
      have hgx := Lib.hid hg9
      refine wpE_reads [6, 7, 8] 2 rfl (by kernel_rfl) ?_
      simp only [opsAt_nil, opsAt_cons, consOpt_some, List.getElem?_toArray, List.getElem?_cons_zero, List.getElem?_cons_succ]
      repeat (go_big_quiet_step (fail))
      refine wpQuiet_nil ?_
      refine wpE_one (i := 10) rfl (by kernel_rfl) rfl ?_
      unfold wpMid
      simp only [opsAt_nil, opsAt_cons, consOpt_some, List.getElem?_toArray, List.getElem?_cons_zero, List.getElem?_cons_succ]
      obtain ⟨p0, p1, f0, f1⟩ := res2 k9
      have k10 : ((vv.setCell ⟨g9, 0, none⟩ (.int .i64 lo3)).setCell ⟨g9, 1, none⟩ (.int .i64 h3)).heap[g9]? = some (.cells #[.int .i64 lo3, .int .i64 h3] 54 (0, 0)) := by
        simp only [heapq_set, if_pos, k9, Option.map_some]
        rfl
      have hbz : Below w15.heap.size w15 ((vv.setCell ⟨g9, 0, none⟩ (.int .i64 lo3)).setCell ⟨g9, 1, none⟩ (.int .i64 h3)) := (hbx.setCell (p := ⟨g9, 0, none⟩) hg9 _).setCell (p := ⟨g9, 1, none⟩) hg9 _
      have HK10 := Lib.hid k10
      clear k9 k10 ht3
      go_wp2
      refine onlyNormal_mk ⟨⟨⟨_, hbz⟩, rfl⟩, ?_⟩
      refine wpE_tail rfl (by kernel_rfl) ?_
      simp only [opsAt_nil, opsAt_cons, consOpt_some, List.getElem?_toArray, List.getElem?_cons_zero, List.getElem?_cons_succ]
      go_wp2
      refine onlyNormal_mk ?_
      go_wp2_with fail
      go_meet
      exact ⟨g9, lo3, h3, t3, rfl, rfl, HK10.out, hgx.out, HTT.out, hbz⟩
  case rest =>
  obtain ⟨g11, lo3, h3, t3, rfl, rfl, k11, -, ht3, hb⟩ := hcut
  have G16 := G15.below hb
  replace k7 := blk hb k7
  clear a0 a1 b0 b1 b2 b3 b4 hb G15 TC CQ TQ
  have HL16 := Lib.hid G16.low
  obtain ⟨d0, d1⟩ := cells2 k7
  obtain ⟨e0, e1⟩ := cells2 k11
  rcases HT1.out with ⟨hz1, hh1, hp1⟩ | hz1
  case inr =>
    subst hz1
    clear G16
    rcases HT2.out with ⟨hz2, _⟩ | hz2 <;> subst hz2 <;> rcases ht3 with ⟨hz3, _, _⟩ | hz3 <;> subst hz3
    all_goals
      go_wp2
      go_ret
      exact ⟨rfl, HL16.out⟩
  rcases HT2.out with ⟨hz2, hrun⟩ | hz2
  case inr =>
    subst hz1 hz2
    clear G16
    rcases ht3 with ⟨hz3, _, _⟩ | hz3 <;> subst hz3
    all_goals
      go_wp2
      go_ret
      exact ⟨rfl, HL16.out⟩
  rcases ht3 with ⟨hz3, hh3, hp3⟩ | hz3
  case inr =>
    subst hz1 hz2 hz3
    clear G16
    go_wp2
    go_ret
    exact ⟨rfl, HL16.out⟩
  obtain ⟨hf1, hf2⟩ : 1 ≤ h1 ∧ h1 ≤ h3 := by
    have h9 := fast_first (l := l) HLP.out h1n HP.out (by rw [HNS1.out]; exact hrun) HSQ.out HQN.out HQ0.out (by rw [HFL.out]; exact HSF.out) hp3 (by rw [HFL.out]; exact hp1)
    rw [HFL.out, ← hh1, ← hh3] at h9
    exact h9
  subst hz1 hz2 hz3
  clear hh1 hp1 hrun hh3 hp3 HT1 HT2
  by_cases hA : h1 ≤ 100000000
  case neg =>
    have WI := fun W => Within_val h1 1 100000000 false (by simp [withinB]; omega) W
    clear G16
    go_wp2_with (go_at_call 15; refine (WI _).mono ?_; rintro e w' ⟨rfl, rfl⟩)
    go_ret
    exact ⟨rfl, HL16.out⟩
  have WI1 := fun W => Within_val h1 1 100000000 true (by simp [withinB]; omega) W
  by_cases hB3 : h3 ≤ 5000000000
  case neg =>
    have WI := fun W => Within_val h3 h1 5000000000 false (by simp [withinB]; omega) W
    have HB3 := Lib.hid (show 5000000000 < h3 by omega)
    clear G16 hf1 hf2 hB3
    go_wp2_with (go_at_call 15; refine stp ?_)
    unfold Stp
    refine (WI1 _).mono ?_
    rintro e w' ⟨rfl, rfl⟩
    clear WI1
    go_wp2_with (go_at_call 15; refine stp ?_)
    unfold Stp
    refine (WI _).mono ?_
    rintro e w' ⟨rfl, rfl⟩
    clear WI
    have hB3 := HB3.out
    go_wp2
    go_ret
    exact ⟨rfl, HL16.out⟩
  have WI := fun W => Within_val h3 h1 5000000000 true (by simp [withinB]; omega) W
  have CE := fun W => Ceil_any h1 (by omega) (by omega) W
  obtain ⟨L, hL⟩ : ∃ L : Int, (h1 + 999) / 1000 = L := ⟨_, rfl⟩
  obtain ⟨H, hH⟩ : ∃ H : Int, (h3 + 999) / 1000 = H := ⟨_, rfl⟩
  have CE3 := fun W => Ceil_any h3 (by omega) (by omega) W
  have hLH : 1 ≤ L ∧ L ≤ 100000 ∧ L ≤ H ∧ H ≤ 5000000 := by omega
  rw [hL] at CE
  rw [hH] at CE3
  clear hL hH
  have HLH := Lib.hid hLH
  obtain ⟨hL1, hL2, hL3, hL4⟩ := hLH
  clear hA hB3 hf1 hf2
  go_wp2_with (go_at_call 15; refine stp ?_)
  unfold Stp
  refine (WI1 _).mono ?_
  rintro e w' ⟨rfl, rfl⟩
  clear WI1
  go_wp2_with (go_at_call 15; refine stp ?_)
  unfold Stp
  refine (WI _).mono ?_
  rintro e w' ⟨rfl, rfl⟩
  clear WI
  go_upto_region 18 with (go_at_call 20; refine (CE _).mono ?_; rintro e w' ⟨rfl, rfl⟩)
  clear CE d0 d1 e0 HL16 k7
  replace k11 : wc.heap[g11]? = _ := k11
  generalize wc = w16 at *
  have hbn : Below w16.heap.size w16 (((w16.alloc (.cells #[.string ⟨#[111, 117, 116]⟩, .string ⟨#[105, 110]⟩] 9)).alloc (.cells #[.int .i64 0, .int .i64 0, .int .i64 1, .int .i64 L, .int .i64 (-1), .int .i64 0] 61)).alloc (.cells #[.slice (some ⟨w16.heap.size, 0, none⟩) 2 2, .slice (some ⟨w16.heap.size + 1, 0, none⟩) 1 1] 25)) := (((Below.refl _ _).alloc (Nat.le_refl _) _).alloc (by simp) _).alloc (by simp; omega) _
  have kA : (((w16.alloc (.cells #[.string ⟨#[111, 117, 116]⟩, .string ⟨#[105, 110]⟩] 9)).alloc (.cells #[.int .i64 0, .int .i64 0, .int .i64 1, .int .i64 L, .int .i64 (-1), .int .i64 0] 61)).alloc (.cells #[.slice (some ⟨w16.heap.size, 0, none⟩) 2 2, .slice (some ⟨w16.heap.size + 1, 0, none⟩) 1 1] 25)).heap[w16.heap.size]? = some (.cells #[.string ⟨#[111, 117, 116]⟩, .string ⟨#[105, 110]⟩] 9 (0, 0)) := by rw [heapq_alloc, if_neg (by simp; omega), heapq_alloc, if_neg (by simp), heapq_alloc, if_pos rfl]
  have kB : (((w16.alloc (.cells #[.string ⟨#[111, 117, 116]⟩, .string ⟨#[105, 110]⟩] 9)).alloc (.cells #[.int .i64 0, .int .i64 0, .int .i64 1, .int .i64 L, .int .i64 (-1), .int .i64 0] 61)).alloc (.cells #[.slice (some ⟨w16.heap.size, 0, none⟩) 2 2, .slice (some ⟨w16.heap.size + 1, 0, none⟩) 1 1] 25)).heap[w16.heap.size + 1]? = some (.cells #[.int .i64 0, .int .i64 0, .int .i64 1, .int .i64 L, .int .i64 (-1), .int .i64 0] 61 (0, 0)) := by rw [heapq_alloc, if_neg (by simp), heapq_alloc, if_pos (by simp)]
  have kC : (((w16.alloc (.cells #[.string ⟨#[111, 117, 116]⟩, .string ⟨#[105, 110]⟩] 9)).alloc (.cells #[.int .i64 0, .int .i64 0, .int .i64 1, .int .i64 L, .int .i64 (-1), .int .i64 0] 61)).alloc (.cells #[.slice (some ⟨w16.heap.size, 0, none⟩) 2 2, .slice (some ⟨w16.heap.size + 1, 0, none⟩) 1 1] 25)).heap[w16.heap.size + 2]? = some (.cells #[.slice (some ⟨w16.heap.size, 0, none⟩) 2 2, .slice (some ⟨w16.heap.size + 1, 0, none⟩) 1 1] 25 (0, 0)) := by rw [heapq_alloc, if_pos (by simp)]
  have hgl16 : w.heap.size ≤ w16.heap.size := G16.low.size
  have ES : Hid (∀ s ∈ evs2, s.size ≤ 20) := by unfold Hid; decide +kernel
  have GH : TrH w.heap.size g11 (w16.heap.size + 2) (((w16.alloc (.cells #[.string ⟨#[111, 117, 116]⟩, .string ⟨#[105, 110]⟩] 9)).alloc (.cells #[.int .i64 0, .int .i64 0, .int .i64 1, .int .i64 L, .int .i64 (-1), .int .i64 0] 61)).alloc (.cells #[.slice (some ⟨w16.heap.size, 0, none⟩) 2 2, .slice (some ⟨w16.heap.size + 1, 0, none⟩) 1 1] 25)).heap.size s As ns cs T lo3 h3 (some ⟨w16.heap.size, 0, none⟩) (some ⟨w16.heap.size + 1, 0, none⟩) 1 1 (acts1 L) w (((w16.alloc (.cells #[.string ⟨#[111, 117, 116]⟩, .string ⟨#[105, 110]⟩] 9)).alloc (.cells #[.int .i64 0, .int .i64 0, .int .i64 1, .int .i64 L, .int .i64 (-1), .int .i64 0] 61)).alloc (.cells #[.slice (some ⟨w16.heap.size, 0, none⟩) 2 2, .slice (some ⟨w16.heap.size + 1, 0, none⟩) 1 1] 25)) :=
    ⟨blk hbn G16.bs, blk hbn k11, kC, ⟨rfl, rfl, Rd_of_block (cs := #[.string ⟨#[111, 117, 116]⟩, .string ⟨#[105, 110]⟩]) kA, Rd_of_block (cs := #[.int .i64 0, .int .i64 0, .int .i64 1, .int .i64 L, .int .i64 (-1), .int .i64 0]) kB, ES.out, Nat.le_refl _⟩, ⟨rfl, .inr ⟨w16.heap.size + 1, 1, #[.int .i64 0, .int .i64 0, .int .i64 1, .int .i64 L, .int .i64 (-1), .int .i64 0], rfl, by omega, kB, Nat.le_refl _, by simp [maxLen], rfl, rfl⟩⟩, ⟨_, _, rfl, kA⟩, G16.low.trans (hbn.mono G16.low.size), Nat.le_refl _⟩
  go_upto_region 19 with (fail)
  clear hbn kA kB kC G16 k11
  generalize (((w16.alloc (.cells #[.string ⟨#[111, 117, 116]⟩, .string ⟨#[105, 110]⟩] 9)).alloc (.cells #[.int .i64 0, .int .i64 0, .int .i64 1, .int .i64 L, .int .i64 (-1), .int .i64 0] 61)).alloc (.cells #[.slice (some ⟨w16.heap.size, 0, none⟩) 2 2, .slice (some ⟨w16.heap.size + 1, 0, none⟩) 1 1] 25)) = w18 at *
  generalize hgn : w16.heap.size + 2 = gn at *
  have HGN := Lib.hid (show w.heap.size ≤ gn by omega)
  clear hgn hgl16
  generalize (some ⟨w16.heap.size, 0, none⟩ : Option Addr) = Ae at *
  generalize w16.heap.size + 1 = ga at *
  have hT2 := HT.out
  have CP := fun (W : World) (h : TrH w.heap.size g11 gn w18.heap.size s As ns cs T lo3 h3 Ae (some ⟨ga, 0, none⟩) 1 1 (acts1 L) w W) => refCopy_any W w18.heap.size Ae (some ⟨ga, 0, none⟩) 2 2 1 1 evs2 (acts1 L) rfl rfl (by omega) (by omega) h.net.re h.net.ra h.hB
  have EA := fun (W : World) (A1 A2 : Option Addr) (c1 c2 : Nat) (h : NetAt W W.heap.size A1 A2 2 c1 1 evs2 (acts1 L)) (At : Option Addr) (ct : Nat) (ht : Rd W W.heap.size At (intCells [T, 0])) => earl_one W A1 A2 c1 c2 T L hL1 hL2 hT2.1 hT2.2 h At ct ht
  have CT := fun (W : World) (A1 A2 : Option Addr) (c1 c2 : Nat) (h : NetAt W W.heap.size A1 A2 2 c1 1 evs2 (acts1 L)) (At : Option Addr) (ct : Nat) (ht : Rd W W.heap.size At (intCells [T, T + H])) => check_one W A1 A2 c1 c2 T L H hL1 hL2 hL3 hL4 hT2.1 hT2.2 h At ct ht
  unfold netV at EA CT
  clear hL1 hL2 hL3 hL4 hT2
  obtain ⟨n0, n1⟩ := cells2 GH.bn
  obtain ⟨b0, b1, b2, b3, b4⟩ := cells5y GH.bs
  go_cut [15, 16] from 187 to 195 (fun s1 s2 wc => ErR w18 T L s1 s2 wc)
  case first =>
    have hbx : Below w18.heap.size w18 w18.drew := (Below.refl _ _).drew
    have x0 := fun x : Xt w18 => x.cell n0
    have x1 := fun x : Xt w18 => x.cell n1
    have y4 := fun x : Xt w18 => x.cell b4
    have GX := GH.below hbx
    refine wp_region_eager [10] (fun w' => ∃ x : Xt w18, w' = x.1) (by kernel_rfl) ⟨⟨w18.drew, hbx⟩, rfl⟩ ?_
    refine wpE_reads5 [0, 2, 3] 8 rfl (by kernel_rfl) ?_
    simp only [opsAt_nil, opsAt_cons, consOpt_some, List.getElem?_toArray, List.getElem?_cons_zero, List.getElem?_cons_succ]
    repeat (go_big_quiet_step (fail))
    refine wpQuiet_nil ?_
    show wpE _ _ _ _ _ _ _ _ _ w18.drew
    clear x0 x1 y4 n0 n1 b0 b1 b2 b3 b4 GH
    generalize w18.drew = vv at *
    refine wpE_two (i := 1) (k := 4) rfl (by kernel_rfl) rfl rfl ?_ ?_
    · unfold wpMid
      simp only [opsAt_nil, opsAt_cons, consOpt_some, List.getElem?_toArray, List.getElem?_cons_zero, List.getElem?_cons_succ]
      go_wp2_with (go_at_call 10; refine (CP _ GX).mono ?_; rintro e vy ⟨A1, c1, A2, c2, rfl, hcc, hr1, hr2, hby⟩)
      have NX : NetAt vy vy.heap.size A1 A2 2 c1 1 evs2 (acts1 L) := ⟨rfl, rfl, hr1, hr2, ES.out, hcc⟩
      replace GX := GX.below hby
      replace hbx := hbx.trans (hby.mono hbx.size)
      clear hby hr1 hr2 hcc
      refine onlyNormal_mk ⟨⟨⟨_, hbx⟩, rfl⟩, ?_⟩
      generalize vy = vv at *
      refine wpE_one (i := 4) rfl (by kernel_rfl) rfl ?_
      unfold wpMid
      simp only [opsAt_nil, opsAt_cons, consOpt_some, List.getElem?_toArray, List.getElem?_cons_zero, List.getElem?_cons_succ]
      go_wp2
      have hby : Below vv.heap.size vv (vv.alloc (.cells #[Value.int .i64 T, Value.int .i64 0] 3)) := (Below.refl _ _).alloc (Nat.le_refl _) _
      have RL : Rd (vv.alloc (.cells #[Value.int .i64 T, Value.int .i64 0] 3)) (vv.alloc (.cells #[Value.int .i64 T, Value.int .i64 0] 3)).heap.size (some ⟨vv.heap.size, 0, none⟩) (intCells [T, 0]) := Rd_of_block (t := 3) (fr := (0, 0)) (cs := #[Value.int .i64 T, Value.int .i64 0]) (by rw [heapq_alloc, if_pos rfl])
      replace GX := GX.below hby
      replace hbx := hbx.trans (hby.mono hbx.size)
      replace NX := (NX.below hby).mono hby.size
      clear hby
      generalize vv.alloc (.cells #[Value.int .i64 T, Value.int .i64 0] 3) = vy at *
      generalize vv.heap.size = gl at *
      refine onlyNormal_mk ⟨⟨⟨_, hbx⟩, rfl⟩, ?_⟩
      generalize vy = vv at *
      refine wpE_one (i := 5) rfl (by kernel_rfl) rfl ?_
      unfold wpMid
      simp only [opsAt_nil, opsAt_cons, consOpt_some, List.getElem?_toArray, List.getElem?_cons_zero, List.getElem?_cons_succ]
      go_wp2_with (go_at_call 9; refine (EA _ _ _ _ _ NX _ _ RL).mono ?_; rintro e vy ⟨A9, c9, rfl, hr9, hby⟩)
      replace hbx := hbx.trans (hby.mono hbx.size)
      clear hby NX RL GX

      refine onlyNormal_mk ⟨⟨⟨_, hbx⟩, rfl⟩, ?_⟩
      refine wpE_reads [6, 7, 8, 9] 1 rfl (by kernel_rfl) ?_
      simp only [opsAt_nil, opsAt_cons, consOpt_some, List.getElem?_toArray, List.getElem?_cons_zero, List.getElem?_cons_succ]
      repeat (go_big_quiet_step (fail))
      refine wpQuiet_nil ?_
      refine wpE_tail rfl (by kernel_rfl) ?_
      simp only [opsAt_nil, opsAt_cons, consOpt_some, List.getElem?_toArray, List.getElem?_cons_zero, List.getElem?_cons_succ]
      have HBX := Lib.hid hbx
      clear hbx
      go_wp2
      refine onlyNormal_mk ?_
      go_wp2_with fail
      go_meet
      exact ⟨A9, c9, rfl, rfl, hr9, HBX.out⟩
    · unfold wpMid
      simp only [opsAt_nil, opsAt_cons, consOpt_some, List.getElem?_toArray, List.getElem?_cons_zero, List.getElem?_cons_succ]
      go_wp2
      have hby : Below vv.heap.size vv (vv.alloc (.cells #[Value.int .i64 T, Value.int .i64 0] 3)) := (Below.refl _ _).alloc (Nat.le_refl _) _
      have RL : Rd (vv.alloc (.cells #[Value.int .i64 T, Value.int .i64 0] 3)) (vv.alloc (.cells #[Value.int .i64 T, Value.int .i64 0] 3)).heap.size (some ⟨vv.heap.size, 0, none⟩) (intCells [T, 0]) := Rd_of_block (t := 3) (fr := (0, 0)) (cs := #[Value.int .i64 T, Value.int .i64 0]) (by rw [heapq_alloc, if_pos rfl])
      replace GX := GX.below hby
      replace hbx := hbx.trans (hby.mono hbx.size)
      clear hby
      generalize vv.alloc (.cells #[Value.int .i64 T, Value.int .i64 0] 3) = vy at *
      generalize vv.heap.size = gl at *
      refine onlyNormal_mk ⟨⟨⟨_, hbx⟩, rfl⟩, ?_⟩
      generalize vy = vv at *
      refine wpE_one (i := 1) rfl (by kernel_rfl) rfl ?_
      unfold wpMid
      simp only [opsAt_nil, opsAt_cons, consOpt_some, List.getElem?_toArray, List.getElem?_cons_zero, List.getElem?_cons_succ]
      go_wp2_with (go_at_call 10; refine (CP _ GX).mono ?_; rintro e vy ⟨A1, c1, A2, c2, rfl, hcc, hr1, hr2, hby⟩)
      have NX : NetAt vy vy.heap.size A1 A2 2 c1 1 evs2 (acts1 L) := ⟨rfl, rfl, hr1, hr2, ES.out, hcc⟩
      replace GX := GX.below hby
      replace hbx := hbx.trans (hby.mono hbx.size)
      replace RL := (RL.below hby).mono hby.size
      clear hby hr1 hr2 hcc
      refine onlyNormal_mk ⟨⟨⟨_, hbx⟩, rfl⟩, ?_⟩
      generalize vy = vv at *
      refine wpE_one (i := 5) rfl (by kernel_rfl) rfl ?_
      unfold wpMid
      simp only [opsAt_nil, opsAt_cons, consOpt_some, List.getElem?_toArray, List.getElem?_cons_zero, List.getElem?_cons_succ]
      go_wp2_with (go_at_call 9; refine (EA _ _ _ _ _ NX _ _ RL).mono ?_; rintro e vy ⟨A9, c9, rfl, hr9, hby⟩)
      replace hbx := hbx.trans (hby.mono hbx.size)
      clear hby NX RL GX

      refine onlyNormal_mk ⟨⟨⟨_, hbx⟩, rfl⟩, ?_⟩
      refine wpE_reads [6, 7, 8, 9] 1 rfl (by kernel_rfl) ?_
      simp only [opsAt_nil, opsAt_cons, consOpt_some, List.getElem?_toArray, List.getElem?_cons_zero, List.getElem?_cons_succ]
      repeat (go_big_quiet_step (fail))
      refine wpQuiet_nil ?_
      refine wpE_tail rfl (by kernel_rfl) ?_
      simp only [opsAt_nil, opsAt_cons, consOpt_some, List.getElem?_toArray, List.getElem?_cons_zero, List.getElem?_cons_succ]
      have HBX := Lib.hid hbx
      clear hbx
      go_wp2
      refine onlyNormal_mk ?_
      go_wp2_with fail
      go_meet
      exact ⟨A9, c9, rfl, rfl, hr9, HBX.out⟩
  case rest =>
  obtain ⟨Ar, cr, rfl, rfl, hre, hb⟩ := hcut
  have GI := GH.below hb
  clear hb GH EA n0 n1 b0 b1 b2 b3 b4
  generalize wc = w19 at *
  obtain ⟨e0, e1⟩ := cells2 GI.bh
  obtain ⟨b0, b1, b2, b3, b4⟩ := cells5y GI.bs
  have hbd : Below w19.heap.size w19 w19.drew := (Below.refl _ _).drew
  have x1 := fun x : Xt w19 => x.cell e1
  have y4 := fun x : Xt w19 => x.cell b4
  have GJ := GI.below hbd
  replace hre := (hre.below hbd).mono hbd.size
  go_upto_region 20 with (fail)
  refine wp_region_eager [6] (fun w' => ∃ x : Xt w19, w' = x.1) (by kernel_rfl) ⟨⟨w19.drew, hbd⟩, rfl⟩ ?_
  refine wpE_reads5 [0, 1, 2, 3] 3 rfl (by kernel_rfl) ?_
  simp only [opsAt_nil, opsAt_cons, consOpt_some, List.getElem?_toArray, List.getElem?_cons_zero, List.getElem?_cons_succ]
  repeat (go_big_quiet_step (fail))
  refine wpQuiet_nil ?_
  show wpE _ _ _ _ _ _ _ _ _ w19.drew
  clear x1 y4 e0 e1 b0 b1 b2 b3 b4 GI
  refine wpE_one (i := 4) rfl (by kernel_rfl) rfl ?_
  unfold wpMid
  simp only [opsAt_nil, opsAt_cons, consOpt_some, List.getElem?_toArray, List.getElem?_cons_zero, List.getElem?_cons_succ]
  go_wp2_with (go_at_call 20; refine (CE3 _).mono ?_; rintro e w' ⟨rfl, rfl⟩)
  refine onlyNormal_mk ⟨⟨⟨_, hbd⟩, rfl⟩, ?_⟩
  clear hbd CE3
  generalize w19.drew = w20 at *
  obtain ⟨hL1, hL2, hL3, hL4⟩ := HLH.out
  obtain ⟨hT1, hT3⟩ := HT.out
  refine wpE_reads5 [5] 1 rfl (by kernel_rfl) ?_
  simp only [opsAt_nil, opsAt_cons, consOpt_some, List.getElem?_toArray, List.getElem?_cons_zero, List.getElem?_cons_succ]
  repeat (go_big_quiet_step (fail))
  refine wpQuiet_nil ?_
  refine wpE_tail rfl (by kernel_rfl) ?_
  simp only [opsAt_nil, opsAt_cons, consOpt_some, List.getElem?_toArray, List.getElem?_cons_zero, List.getElem?_cons_succ]
  clear hL1 hL2 hL3 hL4 hT1 hT3
  go_wp2
  refine onlyNormal_mk ?_
  go_upto_region 21 with (fail)
  have GH := GJ
  clear GJ
  obtain ⟨n0, n1⟩ := cells2 GH.bn
  obtain ⟨b0, b1, b2, b3, b4⟩ := cells5y GH.bs
  go_cut [18, 19] from 202 to 211 (fun s1 s2 wc => CkR w20 s2 wc)
  case first =>
    have hbx : Below w20.heap.size w20 w20.drew := (Below.refl _ _).drew
    have x0 := fun x : Xt w20 => x.cell n0
    have x1 := fun x : Xt w20 => x.cell n1
    have y4 := fun x : Xt w20 => x.cell b4
    have GX := GH.below hbx
    refine wp_region_eager [11] (fun w' => ∃ x : Xt w20, w' = x.1) (by kernel_rfl) ⟨⟨w20.drew, hbx⟩, rfl⟩ ?_
    refine wpE_reads5 [0, 2, 3, 4] 8 rfl (by kernel_rfl) ?_
    simp only [opsAt_nil, opsAt_cons, consOpt_some, List.getElem?_toArray, List.getElem?_cons_zero, List.getElem?_cons_succ]
    repeat (go_big_quiet_step (fail))
    refine wpQuiet_nil ?_
    show wpE _ _ _ _ _ _ _ _ _ w20.drew
    clear x0 x1 y4 n0 n1 b0 b1 b2 b3 b4 GH
    generalize w20.drew = vv at *
    refine wpE_two (i := 1) (k := 5) rfl (by kernel_rfl) rfl rfl ?_ ?_
    · unfold wpMid
      simp only [opsAt_nil, opsAt_cons, consOpt_some, List.getElem?_toArray, List.getElem?_cons_zero, List.getElem?_cons_succ]
      go_wp2_with (go_at_call 10; refine (CP _ GX).mono ?_; rintro e vy ⟨A1, c1, A2, c2, rfl, hcc, hr1, hr2, hby⟩)
      have NX : NetAt vy vy.heap.size A1 A2 2 c1 1 evs2 (acts1 L) := ⟨rfl, rfl, hr1, hr2, ES.out, hcc⟩
      replace GX := GX.below hby
      replace hbx := hbx.trans (hby.mono hbx.size)
      clear hby hr1 hr2 hcc
      refine onlyNormal_mk ⟨⟨⟨_, hbx⟩, rfl⟩, ?_⟩
      generalize vy = vv at *
      refine wpE_one (i := 5) rfl (by kernel_rfl) rfl ?_
      unfold wpMid
      simp only [opsAt_nil, opsAt_cons, consOpt_some, List.getElem?_toArray, List.getElem?_cons_zero, List.getElem?_cons_succ]
      go_wp2
      have hby : Below vv.heap.size vv (vv.alloc (.cells #[Value.int .i64 T, Value.int .i64 (T + H)] 3)) := (Below.refl _ _).alloc (Nat.le_refl _) _
      have RL : Rd (vv.alloc (.cells #[Value.int .i64 T, Value.int .i64 (T + H)] 3)) (vv.alloc (.cells #[Value.int .i64 T, Value.int .i64 (T + H)] 3)).heap.size (some ⟨vv.heap.size, 0, none⟩) (intCells [T, T + H]) := Rd_of_block (t := 3) (fr := (0, 0)) (cs := #[Value.int .i64 T, Value.int .i64 (T + H)]) (by rw [heapq_alloc, if_pos rfl])
      replace GX := GX.below hby
      replace hbx := hbx.trans (hby.mono hbx.size)
      replace NX := (NX.below hby).mono hby.size
      clear hby
      generalize vv.alloc (.cells #[Value.int .i64 T, Value.int .i64 (T + H)] 3) = vy at *
      generalize vv.heap.size = gl at *
      refine onlyNormal_mk ⟨⟨⟨_, hbx⟩, rfl⟩, ?_⟩
      generalize vy = vv at *
      refine wpE_one (i := 6) rfl (by kernel_rfl) rfl ?_
      unfold wpMid
      simp only [opsAt_nil, opsAt_cons, consOpt_some, List.getElem?_toArray, List.getElem?_cons_zero, List.getElem?_cons_succ]
      go_wp2_with (go_at_call 21; refine (CT _ _ _ _ _ NX _ _ RL).mono ?_; rintro e vy ⟨rfl, hby⟩)
      replace hbx := hbx.trans (hby.mono hbx.size)
      clear hby NX RL GX

      refine onlyNormal_mk ⟨⟨⟨_, hbx⟩, rfl⟩, ?_⟩
      refine wpE_reads [7, 8, 9, 10] 1 rfl (by kernel_rfl) ?_
      simp only [opsAt_nil, opsAt_cons, consOpt_some, List.getElem?_toArray, List.getElem?_cons_zero, List.getElem?_cons_succ]
      repeat (go_big_quiet_step (fail))
      refine wpQuiet_nil ?_
      refine wpE_tail rfl (by kernel_rfl) ?_
      simp only [opsAt_nil, opsAt_cons, consOpt_some, List.getElem?_toArray, List.getElem?_cons_zero, List.getElem?_cons_succ]
      have HBX := Lib.hid hbx
      clear hbx
      go_wp2
      refine onlyNormal_mk ?_
      go_wp2_with fail
      go_meet
      exact ⟨rfl, HBX.out⟩
    · unfold wpMid
      simp only [opsAt_nil, opsAt_cons, consOpt_some, List.getElem?_toArray, List.getElem?_cons_zero, List.getElem?_cons_succ]
      go_wp2
      have hby : Below vv.heap.size vv (vv.alloc (.cells #[Value.int .i64 T, Value.int .i64 (T + H)] 3)) := (Below.refl _ _).alloc (Nat.le_refl _) _
      have RL : Rd (vv.alloc (.cells #[Value.int .i64 T, Value.int .i64 (T + H)] 3)) (vv.alloc (.cells #[Value.int .i64 T, Value.int .i64 (T + H)] 3)).heap.size (some ⟨vv.heap.size, 0, none⟩) (intCells [T, T + H]) := Rd_of_block (t := 3) (fr := (0, 0)) (cs := #[Value.int .i64 T, Value.int .i64 (T + H)]) (by rw [heapq_alloc, if_pos rfl])
      replace GX := GX.below hby
      replace hbx := hbx.trans (hby.mono hbx.size)
      clear hby
      generalize vv.alloc (.cells #[Value.int .i64 T, Value.int .i64 (T + H)] 3) = vy at *
      generalize vv.heap.size = gl at *
      refine onlyNormal_mk ⟨⟨⟨_, hbx⟩, rfl⟩, ?_⟩
      generalize vy = vv at *
      refine wpE_one (i := 1) rfl (by kernel_rfl) rfl ?_
      unfold wpMid
      simp only [opsAt_nil, opsAt_cons, consOpt_some, List.getElem?_toArray, List.getElem?_cons_zero, List.getElem?_cons_succ]
      go_wp2_with (go_at_call 10; refine (CP _ GX).mono ?_; rintro e vy ⟨A1, c1, A2, c2, rfl, hcc, hr1, hr2, hby⟩)
      have NX : NetAt vy vy.heap.size A1 A2 2 c1 1 evs2 (acts1 L) := ⟨rfl, rfl, hr1, hr2, ES.out, hcc⟩
      replace GX := GX.below hby
      replace hbx := hbx.trans (hby.mono hbx.size)
      replace RL := (RL.below hby).mono hby.size
      clear hby hr1 hr2 hcc
      refine onlyNormal_mk ⟨⟨⟨_, hbx⟩, rfl⟩, ?_⟩
      generalize vy = vv at *
      refine wpE_one (i := 6) rfl (by kernel_rfl) rfl ?_
      unfold wpMid
      simp only [opsAt_nil, opsAt_cons, consOpt_some, List.getElem?_toArray, List.getElem?_cons_zero, List.getElem?_cons_succ]
      go_wp2_with (go_at_call 21; refine (CT _ _ _ _ _ NX _ _ RL).mono ?_; rintro e vy ⟨rfl, hby⟩)
      replace hbx := hbx.trans (hby.mono hbx.size)
      clear hby NX RL GX

      refine onlyNormal_mk ⟨⟨⟨_, hbx⟩, rfl⟩, ?_⟩
      refine wpE_reads [7, 8, 9, 10] 1 rfl (by kernel_rfl) ?_
      simp only [opsAt_nil, opsAt_cons, consOpt_some, List.getElem?_toArray, List.getElem?_cons_zero, List.getElem?_cons_succ]
      repeat (go_big_quiet_step (fail))
      refine wpQuiet_nil ?_
      refine wpE_tail rfl (by kernel_rfl) ?_
      simp only [opsAt_nil, opsAt_cons, consOpt_some, List.getElem?_toArray, List.getElem?_cons_zero, List.getElem?_cons_succ]
      have HBX := Lib.hid hbx
      clear hbx
      go_wp2
      refine onlyNormal_mk ?_
      go_wp2_with fail
      go_meet
      exact ⟨rfl, HBX.out⟩
  case rest =>
  obtain ⟨rfl, hb⟩ := hcut
  have GI := GH.below hb
  replace hre := (hre.below hb).mono hb.size
  clear hb GH CT CP n0 n1 b0 b1 b2 b3 b4
  generalize wc = w21 at *
  obtain ⟨b0, b1, b2, b3, b4⟩ := cells5y GI.bs
  obtain ⟨ba, oa, hAs, _, r1⟩ := hre 1 (.int .i64 (T + L)) rfl
  subst hAs
  obtain ⟨hL1, hL2, hL3, hL4⟩ := HLH.out
  obtain ⟨hT1, hT3⟩ := HT.out
  have hby : Below w21.heap.size w21 (w21.alloc (.cells #[.int .i64 T, .int .i64 (T + L)] 3)) := (Below.refl _ _).alloc (Nat.le_refl _) _
  have RL : Rd (w21.alloc (.cells #[.int .i64 T, .int .i64 (T + L)] 3)) (w21.alloc (.cells #[.int .i64 T, .int .i64 (T + L)] 3)).heap.size (some ⟨w21.heap.size, 0, none⟩) (intCells [T, T + L]) := Rd_of_block (t := 3) (fr := (0, 0)) (cs := #[.int .i64 T, .int .i64 (T + L)]) (by rw [heapq_alloc, if_pos rfl])
  replace hre := (hre.below hby).mono hby.size
  have IN : Calls Try.prog 22 #[.slice (some ⟨ba, oa, none⟩) 2 cr, .slice (some ⟨w21.heap.size, 0, none⟩) 2 2] (w21.alloc (.cells #[.int .i64 T, .int .i64 (T + L)] 3)) fun e w' => e = .returned (.bool true) ∧ Below (w21.alloc (.cells #[.int .i64 T, .int .i64 (T + L)] 3)).heap.size (w21.alloc (.cells #[.int .i64 T, .int .i64 (T + L)] 3)) w' := Ints_same (some ⟨ba, oa, none⟩) (some ⟨w21.heap.size, 0, none⟩) 2 cr 2 _ _ [T, T + L] _ (by omega) rfl hre RL (Nat.le_refl _) (Nat.le_refl _)
  go_wp2_with (go_at_call 22; refine stp ?_)
  unfold Stp
  refine IN.mono ?_
  rintro e w22 ⟨rfl, hb22⟩
  have GK := (GI.below hby).below hb22
  have r2 := kept hb22 (kept hby r1)
  clear IN RL hre GI hby hb22 r1 b0 b1 b2 b3 b4
  have hlow := Lib.hid GK.low
  by_cases hLs : L < 2
  case pos =>
    clear GK
    go_wp2
    go_ret
    exact ⟨rfl, hlow.out⟩
  have hL22 : 2 ≤ L := by omega
  have hlL := Lib.hid hL22
  obtain ⟨M, hM⟩ : ∃ M, L - 1 = M := ⟨_, rfl⟩
  have HM2 := Lib.hid hM
  obtain ⟨n0, n1⟩ := cells2 GK.bn
  obtain ⟨i1, hi1, hy0, hy1, hy2⟩ := info_parts info61
  have fz := frozen_of_row w22 gn 1 _ _ GK.bn
  go_upto_region 26 with (fail)
  clear hLs hL22 hT1 hT3 hL1 hL2 hL3 hL4 r2
  have hM1 : 1 ≤ M ∧ M ≤ 100000 := by have := HLH.out; have := hlL.out; omega
  have hba : Below w22.heap.size w22 (w22.alloc (.cells #[.int .i64 3, .int .i64 0, .int .i64 1, .int .i64 1, .int .i64 M, .int .i64 0] 61)) := (Below.refl _ _).alloc (Nat.le_refl _) _
  have GL := GK.below hba
  have hsL := hlow.out.size
  go_wp2_with (at_builtin; refine stp ?_)
  unfold Stp
  refine wpList_append_lies _ rfl _ _ 23 rfl w.heap.size 61 i1 _ 6 48 Try.underlying23 hi1 hy0 hy1 hy2 rfl (by omega) (.slice (some ⟨ga, 0, none⟩) 1 1) 1 (actCells (acts1 L)) rfl GL.own ⟨w22.heap.size, 0, none⟩ 1 1 [.int .i64 3, .int .i64 0, .int .i64 1, .int .i64 1, .int .i64 M, .int .i64 0] rfl rfl (news_at (by rw [heapq_alloc, if_pos rfl])) (by simp [Value.oneCell']) (by omega) (by simp only [maxLen]; omega) (by omega) (Nat.le_trans hsL hba.size) _ rfl ?_
  intro gm cm w23 hown hgrow _ _
  have hown2 : w23.ownsRow w.heap.size 61 6 (.slice (some ⟨gm, 0, none⟩) 2 cm) 2 (actCells (acts2 L)) := by
    have h9 : actCells (acts1 L) ++ [.int .i64 3, .int .i64 0, .int .i64 1, .int .i64 1, .int .i64 M, .int .i64 0] = actCells (acts2 L) := by
      rw [← HM2.out]
      rfl
    rw [← h9]
    exact hown
  have GM : TrH w.heap.size g11 gn (w23.setCell ⟨gn, 1, none⟩ (.slice (some ⟨gm, 0, none⟩) (1 + 1) cm)).heap.size s As ns cs T lo3 h3 Ae (some ⟨gm, 0, none⟩) 2 cm (acts2 L) w (w23.setCell ⟨gn, 1, none⟩ (.slice (some ⟨gm, 0, none⟩) (1 + 1) cm)) := GL.more HGN.out rfl hgrow hown2 (Nat.le_trans hsL hba.size)
  have kn := GL.grown hgrow
  obtain ⟨m0, m1⟩ := cells2 kn
  have fz2 := frozen_of_row w23 gn 1 _ _ kn
  clear hown hown2 hgrow GL GK hba n0 n1 fz hsL hlow kn hM1
  go_upto_region 27 with (fail)
  clear m0 m1 fz2 hi1 hy0 hy1 hy2
  clear hM
  generalize w23.setCell ⟨gn, 1, none⟩ (.slice (some ⟨gm, 0, none⟩) (1 + 1) cm) = w24 at *
  have hT2 := HT.out
  have hL22 := hlL.out
  have hL2 := HLH.out.2.1
  have CP := fun (W : World) (h : TrH w.heap.size g11 gn w24.heap.size s As ns cs T lo3 h3 Ae (some ⟨gm, 0, none⟩) 2 cm (acts2 L) w W) => refCopy_any W w24.heap.size Ae (some ⟨gm, 0, none⟩) 2 2 2 cm evs2 (acts2 L) rfl rfl (by omega) (by omega) h.net.re h.net.ra h.hB
  have EA := fun (W : World) (A1 A2 : Option Addr) (c1 c2 : Nat) (h : NetAt W W.heap.size A1 A2 2 c1 2 evs2 (acts2 L)) (At : Option Addr) (ct : Nat) (ht : Rd W W.heap.size At (intCells [T, 0])) => earl_two W A1 A2 c1 c2 T L hL22 hL2 hT2.1 hT2.2 h At ct ht
  have FC := fun (W : World) (A1 A2 : Option Addr) (c1 c2 : Nat) (h : NetAt W W.heap.size A1 A2 2 c1 2 evs2 (acts2 L)) => FindCycle_two W W.heap.size A1 A2 c1 c2 evs2 L hL22 hL2 h (Nat.le_refl _) (netR2 hL22 hL2)
  have CC := fun (W : World) (A1 A2 : Option Addr) (c1 c2 : Nat) (h : NetAt W W.heap.size A1 A2 2 c1 2 evs2 (acts2 L)) (Al : Option Addr) (cl : Nat) (hl : Rd W W.heap.size Al (sCells [(0, false), (1, true)])) => CheckCycle_two W W.heap.size A1 A2 c1 c2 evs2 L hL22 hL2 h (Nat.le_refl _) (netR2 hL22 hL2) W.heap.size Al cl hl (Nat.le_refl _)
  unfold netV at EA
  clear hT2 hL22 hL2
  have GH := GM
  clear GM
  obtain ⟨n0, n1⟩ := cells2 GH.bn
  obtain ⟨b0, b1, b2, b3, b4⟩ := cells5y GH.bs
  go_cut [20, 21] from 247 to 255 (fun s1 s2 wc => EcR w24 s2 wc)
  case first =>
    have hbx : Below w24.heap.size w24 w24.drew := (Below.refl _ _).drew
    have x0 := fun x : Xt w24 => x.cell n0
    have x1 := fun x : Xt w24 => x.cell n1
    have y4 := fun x : Xt w24 => x.cell b4
    have GX := GH.below hbx
    refine wp_region_eager [10] (fun w' => ∃ x : Xt w24, w' = x.1) (by kernel_rfl) ⟨⟨w24.drew, hbx⟩, rfl⟩ ?_
    refine wpE_reads5 [0, 2, 3] 8 rfl (by kernel_rfl) ?_
    simp only [opsAt_nil, opsAt_cons, consOpt_some, List.getElem?_toArray, List.getElem?_cons_zero, List.getElem?_cons_succ]
    repeat (go_big_quiet_step (fail))
    refine wpQuiet_nil ?_
    show wpE _ _ _ _ _ _ _ _ _ w24.drew
    clear x0 x1 y4 n0 n1 b0 b1 b2 b3 b4 GH
    generalize w24.drew = vv at *
    refine wpE_two (i := 1) (k := 4) rfl (by kernel_rfl) rfl rfl ?_ ?_
    · unfold wpMid
      simp only [opsAt_nil, opsAt_cons, consOpt_some, List.getElem?_toArray, List.getElem?_cons_zero, List.getElem?_cons_succ]
      go_wp2_with (go_at_call 10; refine (CP _ GX).mono ?_; rintro e vy ⟨A1, c1, A2, c2, rfl, hcc, hr1, hr2, hby⟩)
      have NX : NetAt vy vy.heap.size A1 A2 2 c1 2 evs2 (acts2 L) := ⟨rfl, rfl, hr1, hr2, ES.out, hcc⟩
      replace GX := GX.below hby
      replace hbx := hbx.trans (hby.mono hbx.size)
      clear hby hr1 hr2 hcc
      refine onlyNormal_mk ⟨⟨⟨_, hbx⟩, rfl⟩, ?_⟩
      generalize vy = vv at *
      refine wpE_one (i := 4) rfl (by kernel_rfl) rfl ?_
      unfold wpMid
      simp only [opsAt_nil, opsAt_cons, consOpt_some, List.getElem?_toArray, List.getElem?_cons_zero, List.getElem?_cons_succ]
      go_wp2
      have hby : Below vv.heap.size vv (vv.alloc (.cells #[Value.int .i64 T, Value.int .i64 0] 3)) := (Below.refl _ _).alloc (Nat.le_refl _) _
      have RL : Rd (vv.alloc (.cells #[Value.int .i64 T, Value.int .i64 0] 3)) (vv.alloc (.cells #[Value.int .i64 T, Value.int .i64 0] 3)).heap.size (some ⟨vv.heap.size, 0, none⟩) (intCells [T, 0]) := Rd_of_block (t := 3) (fr := (0, 0)) (cs := #[Value.int .i64 T, Value.int .i64 0]) (by rw [heapq_alloc, if_pos rfl])
      replace GX := GX.below hby
      replace hbx := hbx.trans (hby.mono hbx.size)
      replace NX := (NX.below hby).mono hby.size
      clear hby
      generalize vv.alloc (.cells #[Value.int .i64 T, Value.int .i64 0] 3) = vy at *
      generalize vv.heap.size = gl at *
      refine onlyNormal_mk ⟨⟨⟨_, hbx⟩, rfl⟩, ?_⟩
      generalize vy = vv at *
      refine wpE_one (i := 5) rfl (by kernel_rfl) rfl ?_
      unfold wpMid
      simp only [opsAt_nil, opsAt_cons, consOpt_some, List.getElem?_toArray, List.getElem?_cons_zero, List.getElem?_cons_succ]
      go_wp2_with (go_at_call 9; refine (EA _ _ _ _ _ NX _ _ RL).mono ?_; rintro e vy ⟨rfl, hby⟩)
      replace hbx := hbx.trans (hby.mono hbx.size)
      clear hby NX RL GX

      refine onlyNormal_mk ⟨⟨⟨_, hbx⟩, rfl⟩, ?_⟩
      refine wpE_reads [6, 7, 8, 9] 1 rfl (by kernel_rfl) ?_
      simp only [opsAt_nil, opsAt_cons, consOpt_some, List.getElem?_toArray, List.getElem?_cons_zero, List.getElem?_cons_succ]
      repeat (go_big_quiet_step (fail))
      refine wpQuiet_nil ?_
      refine wpE_tail rfl (by kernel_rfl) ?_
      simp only [opsAt_nil, opsAt_cons, consOpt_some, List.getElem?_toArray, List.getElem?_cons_zero, List.getElem?_cons_succ]
      have HBX := Lib.hid hbx
      clear hbx
      go_wp2
      refine onlyNormal_mk ?_
      go_wp2_with fail
      go_meet
      exact ⟨rfl, HBX.out⟩
    · unfold wpMid
      simp only [opsAt_nil, opsAt_cons, consOpt_some, List.getElem?_toArray, List.getElem?_cons_zero, List.getElem?_cons_succ]
      go_wp2
      have hby : Below vv.heap.size vv (vv.alloc (.cells #[Value.int .i64 T, Value.int .i64 0] 3)) := (Below.refl _ _).alloc (Nat.le_refl _) _
      have RL : Rd (vv.alloc (.cells #[Value.int .i64 T, Value.int .i64 0] 3)) (vv.alloc (.cells #[Value.int .i64 T, Value.int .i64 0] 3)).heap.size (some ⟨vv.heap.size, 0, none⟩) (intCells [T, 0]) := Rd_of_block (t := 3) (fr := (0, 0)) (cs := #[Value.int .i64 T, Value.int .i64 0]) (by rw [heapq_alloc, if_pos rfl])
      replace GX := GX.below hby
      replace hbx := hbx.trans (hby.mono hbx.size)
      clear hby
      generalize vv.alloc (.cells #[Value.int .i64 T, Value.int .i64 0] 3) = vy at *
      generalize vv.heap.size = gl at *
      refine onlyNormal_mk ⟨⟨⟨_, hbx⟩, rfl⟩, ?_⟩
      generalize vy = vv at *
      refine wpE_one (i := 1) rfl (by kernel_rfl) rfl ?_
      unfold wpMid
      simp only [opsAt_nil, opsAt_cons, consOpt_some, List.getElem?_toArray, List.getElem?_cons_zero, List.getElem?_cons_succ]
      go_wp2_with (go_at_call 10; refine (CP _ GX).mono ?_; rintro e vy ⟨A1, c1, A2, c2, rfl, hcc, hr1, hr2, hby⟩)
      have NX : NetAt vy vy.heap.size A1 A2 2 c1 2 evs2 (acts2 L) := ⟨rfl, rfl, hr1, hr2, ES.out, hcc⟩
      replace GX := GX.below hby
      replace hbx := hbx.trans (hby.mono hbx.size)
      replace RL := (RL.below hby).mono hby.size
      clear hby hr1 hr2 hcc
      refine onlyNormal_mk ⟨⟨⟨_, hbx⟩, rfl⟩, ?_⟩
      generalize vy = vv at *
      refine wpE_one (i := 5) rfl (by kernel_rfl) rfl ?_
      unfold wpMid
      simp only [opsAt_nil, opsAt_cons, consOpt_some, List.getElem?_toArray, List.getElem?_cons_zero, List.getElem?_cons_succ]
      go_wp2_with (go_at_call 9; refine (EA _ _ _ _ _ NX _ _ RL).mono ?_; rintro e vy ⟨rfl, hby⟩)
      replace hbx := hbx.trans (hby.mono hbx.size)
      clear hby NX RL GX

      refine onlyNormal_mk ⟨⟨⟨_, hbx⟩, rfl⟩, ?_⟩
      refine wpE_reads [6, 7, 8, 9] 1 rfl (by kernel_rfl) ?_
      simp only [opsAt_nil, opsAt_cons, consOpt_some, List.getElem?_toArray, List.getElem?_cons_zero, List.getElem?_cons_succ]
      repeat (go_big_quiet_step (fail))
      refine wpQuiet_nil ?_
      refine wpE_tail rfl (by kernel_rfl) ?_
      simp only [opsAt_nil, opsAt_cons, consOpt_some, List.getElem?_toArray, List.getElem?_cons_zero, List.getElem?_cons_succ]
      have HBX := Lib.hid hbx
      clear hbx
      go_wp2
      refine onlyNormal_mk ?_
      go_wp2_with fail
      go_meet
      exact ⟨rfl, HBX.out⟩
  case rest =>
  obtain ⟨rfl, hb⟩ := hcut
  have GI := GH.below hb
  clear hb GH EA n0 n1 b0 b1 b2 b3 b4
  generalize wc = w25 at *
  obtain ⟨n0, n1⟩ := cells2 GI.bn
  go_wp2_with (go_at_call 10; refine stp ?_)
  unfold Stp
  refine (CP _ GI).mono ?_
  rintro e w26 ⟨A1, c1, A2, c2, rfl, hcc, hr1, hr2, hb⟩
  have NX : NetAt w26 w26.heap.size A1 A2 2 c1 2 evs2 (acts2 L) := ⟨rfl, rfl, hr1, hr2, ES.out, hcc⟩
  have GJ := GI.below hb
  clear hb hr1 hr2 hcc GI n0 n1
  go_wp2_with (go_at_call 23; refine stp ?_)
  unfold Stp
  refine (FC _ _ _ _ _ NX).mono ?_
  rintro e w27 ⟨gc, cc, rfl, hrc, hb⟩
  have GK := GJ.below hb
  clear hb NX GJ FC
  obtain ⟨n0, n1⟩ := cells2 GK.bn
  go_wp2_with (go_at_call 10; refine stp ?_)
  unfold Stp
  refine (CP _ GK).mono ?_
  rintro e w28 ⟨A1, c1, A2, c2, rfl, hcc, hr1, hr2, hb⟩
  have NX : NetAt w28 w28.heap.size A1 A2 2 c1 2 evs2 (acts2 L) := ⟨rfl, rfl, hr1, hr2, ES.out, hcc⟩
  have GL := GK.below hb
  replace hrc := (hrc.below hb).mono hb.size
  clear hb hr1 hr2 hcc GK n0 n1 CP
  go_wp2_with (go_at_call 24; refine stp ?_)
  unfold Stp
  refine (CC _ _ _ _ _ NX _ _ hrc).mono ?_
  rintro e w29 ⟨rfl, hb⟩
  have GM := GL.below hb
  have hlow := Lib.hid GM.low
  clear hb NX GL CC GM hrc
  go_wp2
  go_ret
  exact ⟨rfl, hlow.out⟩
end Go.Proofs.Ytnnnpijepdjanaa
