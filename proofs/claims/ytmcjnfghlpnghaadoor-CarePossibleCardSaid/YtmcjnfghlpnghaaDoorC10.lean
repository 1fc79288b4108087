/- LeastTime: the least number of ticks by which all are out. -/
import Derived.Test.YtmcjnfghlpnghaaDoorC9
namespace Go.Proofs.YtmcjnfghlpnghaaDoor
open Go.RowKit

theorem first00 (w : World) : Calls Tryd.prog 91 #[.slice (some ⟨w.heap.size, 0, none⟩) 2 2] (w.alloc (.cells #[.int .i64 0, .int .i64 0] 29)) fun e w' => e = .returned (.int .i64 0) ∧ w.alloc (.cells #[.int .i64 0, .int .i64 0] 29) = w' := first2 w 0 0

/-- so many out by so many ticks -/
def outIs (pp : List Int) (ws : List Ev) (t : Nat) (o : Int) : Prop := ∃ k f F, runM k f (builtM pp ws t) = some F ∧ F.o = o

def SumRel (pp : List Int) (np : Nat) (u7 u23 : Value) : Prop :=
  ∃ (k : Nat) (acc : Int), k ≤ np ∧ u23 = .int .i64 k ∧ u7 = .int .i64 acc ∧ acc + sumL (pp.drop k) = sumL pp ∧ 0 ≤ acc ∧ acc ≤ 10000 * k

theorem FlowAt.out {w : World} {B g : Nat} {F : Fl} (h : FlowAt w B g F) : w.cell? ⟨g, 6, none⟩ = some (.int .i64 F.o) := by
  obtain ⟨va, ob, rows, h⟩ := h
  rw [cell_of_row _ _ _ _ _ _ h.head]
  rfl
def TimeRel (w2 : World) (n : Nat) (u33 : Value) (wr : World) : Prop := ∃ t : Nat, t ≤ n ∧ u33 = .int .i64 t ∧ Below w2.heap.size w2 wr

def LeastPost (w : World) (n e0 : Int) (e : Ending) (w' : World) : Prop := e = .returned (.tuple #[.int .i64 n, .int .i64 e0]) ∧ Below w.heap.size w w'

set_option maxRecDepth 100000 in
set_option maxHeartbeats 8000000 in
theorem LeastTime_yes (w : World) (B : Nat) (Ap Aw : Option Addr) (np cp nw cw : Nat) (pp : List Int) (ws : List Ev) (hl : pp.length = np) (hlw : ws.length = nw) (hp : Rd w B Ap (intCells pp)) (hw : Rd w B Aw (evCells ws)) (hBw : B ≤ w.heap.size)
    (h0 : (roomsM pp ws).2 = 0) (most : Nat) (hm : most ≤ 20) (n : Nat) (hn : n ≤ most) (hyes : outIs pp ws n (sumL pp)) (hno : ∀ t, t < n → ∃ o, outIs pp ws t o ∧ o ≠ sumL pp) :
    Calls Tryd.prog 31 #[.agg #[.slice Ap np cp, .slice Aw nw cw], .int .i64 most] w (LeastPost w n 0) := by
  have ok := roomsOk_of h0
  have OK := Lib.hid ok
  have HL := Lib.hid hl
  have HLW := Lib.hid hlw
  have r1 : 1 ≤ np := by rw [← hl]; exact ok.some_
  have r2 : np ≤ 6 := by rw [← hl]; exact ok.few
  have r3 : nw ≤ 16 := by rw [← hlw]; exact ok.fewW
  have hb0 : Below w.heap.size w (w.alloc (.cells #[.slice Ap np cp, .slice Aw nw cw] 42)) := (Below.refl _ _).alloc (Nat.le_refl _) _
  have hp0 := hp.below (hb0.mono hBw)
  have hw0 := hw.below (hb0.mono hBw)
  have R := roomsErr_any Ap Aw np cp nw cw (w.alloc (.cells #[.slice Ap np cp, .slice Aw nw cw] 42)) B pp ws hl hlw hp0 hw0 (by simp; omega)
  unfold ErrVal at R
  rw [h0] at R
  have b0 : (w.alloc (.cells #[.slice Ap np cp, .slice Aw nw cw] 42)).heap[w.heap.size]? = some (.cells #[.slice Ap np cp, .slice Aw nw cw] 42 (0, 0)) := by rw [heapq_alloc, if_pos rfl]
  have Tk := fun W : World => ticksErr_any (most : Int) W
  have ht : unlessE (withinB (most : Int) 0 20) 2 = 0 := by
    have : withinB (most : Int) 0 20 = true := by simp [withinB]; omega
    rw [this]
    rfl
  simp only [ht] at Tk
  have hs0 : w.heap.size + 1 ≤ (w.alloc (.cells #[.slice Ap np cp, .slice Aw nw cw] 42)).heap.size := by simp
  have HYES := Lib.hid hyes
  have HNO := Lib.hid hno
  have HP0 := Lib.hid hp0
  have HW0 := Lib.hid hw0
  have HB0 := Lib.hid hb0
  clear ok hl hlw hp hw h0 hyes hno ht hp0 hw0 hb0
  go_enter Tryd.func31, Tryd.ntmps31
  go_upto_region 1 with (fail)
  generalize w.alloc (.cells #[.slice Ap np cp, .slice Aw nw cw] 42) = w0 at *
  have a0 := cell_of_row w0 w.heap.size 0 _ _ _ b0
  have a1 := cell_of_row w0 w.heap.size 1 _ _ _ b0
  simp at a0 a1
  generalize hx : w.heap.size = x at *
  have HX := Lib.hid hx
  clear hx b0
  go_upto_region 2 with (first | (go_at_call 100; refine R.mono ?_; rintro e w1 ⟨rfl, hb1⟩; have a0' := kept hb1 a0; have a1' := kept hb1 a1) | (go_at_call 101; refine (Tk _).mono ?_; rintro e w' ⟨rfl, rfl⟩) | (go_at_call 91; refine (first00 _).mono ?_; rintro e w' ⟨rfl, rfl⟩))
  have c0 := cell_alloc_old (.cells #[.int .i64 0, .int .i64 0] 29) a0'
  have c1 := cell_alloc_old (.cells #[.int .i64 0, .int .i64 0] 29) a1'
  have hb2 : Below x w (w1.alloc (.cells #[.int .i64 0, .int .i64 0] 29)) := (HB0.out.trans (hb1.mono (by omega))).alloc (by have := hb1.size; omega) _
  have hp2 := (HP0.out.below (hb1.mono (by omega))).below (((Below.refl _ _).alloc (Nat.le_refl _) (.cells #[.int .i64 0, .int .i64 0] 29)).mono (by have := hb1.size; omega))
  have hw2 := (HW0.out.below (hb1.mono (by omega))).below (((Below.refl _ _).alloc (Nat.le_refl _) (.cells #[.int .i64 0, .int .i64 0] 29)).mono (by have := hb1.size; omega))
  have hs2 : B ≤ (w1.alloc (.cells #[.int .i64 0, .int .i64 0] 29)).heap.size := by have := hb1.size; simp; omega
  have hs3 : x + 1 ≤ (w1.alloc (.cells #[.int .i64 0, .int .i64 0] 29)).heap.size := by have := hb1.size; simp; omega
  have HB2 := Lib.hid hb2
  have HP2 := Lib.hid hp2
  have HW2 := Lib.hid hw2
  clear a0 a1 a0' a1' hb1 hb2 hp2 hw2 R Tk HP0 HW0 HB0
  generalize w1.alloc (.cells #[.int .i64 0, .int .i64 0] 29) = w2 at *
  go_wp2
  go_loop [7, 23] (fun u7 u23 => SumRel pp np u7 u23) (fun _ u23 => np - (intOf u23).toNat)
  case atStart => exact ⟨0, 0, Nat.zero_le _, rfl, rfl, by simp, by omega, by omega⟩
  case round =>
    obtain ⟨k, acc, hk, rfl, rfl, hacc, g0, g1⟩ := hrel
    by_cases hlt : k < np
    · have hpk : k < pp.length := by rw [HL.out]; exact hlt
      obtain ⟨bp, off, rfl, hbB, hc⟩ := HP2.out.at_ (k := k) (u := .int .i64 (pp[k]?.getD 0)) (intCells_at pp k hpk)
      have hq := OK.out.people (pp[k]?.getD 0) (by rw [List.getElem?_eq_getElem hpk, Option.getD_some]; exact List.getElem_mem hpk)
      have hd := drop_at pp 0 k hpk
      rw [hd] at hacc
      generalize pp[k]?.getD 0 = q at *
      obtain ⟨q0, q1⟩ := hq
      have hac2 : acc + q + sumL (pp.drop (k + 1)) = sumL pp := by simp only [sumL] at hacc; omega
      have HAC2 := Lib.hid hac2
      clear hacc hac2 hd hpk
      go_wp2
      go_round
      case rel => exact ⟨k + 1, acc + q, by omega, by go_num, rfl, HAC2.out, by omega, by omega⟩
      case measure => simp [intOf]; omega
    · obtain rfl : k = np := by omega
      have hd : pp.drop k = [] := by rw [List.drop_eq_nil_iff]; rw [HL.out]; exact Nat.le_refl _
      rw [hd] at hacc
      simp only [sumL, Int.add_zero] at hacc
      have HACC := Lib.hid hacc
      clear hacc hd
      go_wp2
      go_loopw [33] (fun u33 wr => TimeRel w2 n u33 wr) (fun u33 _ => n + 1 - (intOf u33).toNat)
      case atStart => exact ⟨0, Nat.zero_le _, rfl, Below.refl _ _⟩
      case round =>
        obtain ⟨t, htn, rfl, hb⟩ := hrel
        have c0' := kept hb c0
        have c1' := kept hb c1
        have hpr := HP2.out.below (hb.mono hs2)
        have hwr := HW2.out.below (hb.mono hs2)
        have hsz := hb.size
        have HB := Lib.hid hb
        clear hb c0 c1
        have hlt : (t : Int) < (most : Int) + 1 := by omega
        by_cases htn2 : t = n
        · subst htn2
          obtain ⟨kk, ff, F, hrun, ho⟩ := HYES.out
          have C := flowOf_any wr B Ap Aw k cp nw cw pp ws HL.out HLW.out hpr hwr (by omega) OK.out t (by omega) kk ff F hrun
          have hoq : (F.o == acc) = true := beq_iff_eq.2 (by rw [ho, HACC.out])
          clear hrun ho hpr hwr
          go_upto_region 13 with (fail)
          go_wp2_with (go_at_call 102; refine C.mono ?_; rintro e w3 ⟨g, rfl, hfa, hb3⟩; have g6 := hfa.out; clear hfa)
          go_ret2
          refine ⟨rfl, ?_⟩
          rw [HX.out]
          exact HB2.out.trans ((HB.out.mono (by omega)).trans (hb3.mono (by omega)))
        · obtain ⟨o, ⟨kk, ff, F, hrun, ho⟩, hne⟩ := HNO.out t (by omega)
          have C := flowOf_any wr B Ap Aw k cp nw cw pp ws HL.out HLW.out hpr hwr (by omega) OK.out t (by omega) kk ff F hrun
          have hoq : (F.o == acc) = false := beq_eq_false_iff_ne.2 (by rw [ho, HACC.out]; exact hne)
          clear hrun ho hpr hwr hne
          go_upto_region 13 with (fail)
          go_wp2_with (go_at_call 102; refine C.mono ?_; rintro e w3 ⟨g, rfl, hfa, hb3⟩; have g6 := hfa.out; clear hfa)
          go_roundw
          case rel => exact ⟨t + 1, by omega, by go_num, HB.out.trans (hb3.mono hsz)⟩
          case measure => simp [intOf]; omega
end Go.Proofs.YtmcjnfghlpnghaaDoor
