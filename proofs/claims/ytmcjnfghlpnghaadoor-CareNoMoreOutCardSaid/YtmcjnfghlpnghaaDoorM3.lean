/- The reference's LeastTime. The code's LeastTime in all cases. CareOut: the walk. -/
import Derived.Test.YtmcjnfghlpnghaaDoorM6
import Derived.Test.YtmcjnfghlpnghaaDoorM1
import Derived.Test.YtmcjnfghlpnghaaDoorE1
namespace Go.Proofs.YtmcjnfghlpnghaaDoor
open Go.RowKit

/-- the first of c times from t on by which all are out -/
def leastGo (v : Nat → Int) (s : Int) : Nat → Nat → Option Nat
  | 0, _ => none
  | c + 1, t => if v t = s then some t else leastGo v s c (t + 1)
def refLeastV : Option Nat → Value
  | some n => .tuple #[.int .i64 n, .bool true]
  | none => .tuple #[.int .i64 0, .bool false]
def RefLeast (w : World) (r : Option Nat) (e : Ending) (w' : World) : Prop := e = .returned (refLeastV r) ∧ Below w.heap.size w w'
def RLRel (w0 : World) (v : Nat → Int) (s : Int) (most : Nat) (r : Option Nat) (gk : Nat) (u6 : Value) (wr : World) : Prop :=
  ∃ t : Nat, t + gk = most + 1 ∧ u6 = .int .i64 t ∧ leastGo v s gk t = r ∧ Below w0.heap.size w0 wr

set_option maxRecDepth 100000 in
set_option maxHeartbeats 8000000 in
theorem refLeast_any (w : World) (B : Nat) (Ap Aw : Option Addr) (np cp nw cw : Nat) (pp : List Int) (ws : List Ev) (hl : pp.length = np) (hlw : ws.length = nw) (hp : Rd w B Ap (intCells pp)) (hw : Rd w B Aw (evCells ws)) (hBw : B ≤ w.heap.size)
    (ok : RoomsOk pp ws) (most : Nat) (hT : most ≤ 20) (v : Nat → Int) (hv : ∀ t, t ≤ most → runR (1 + np * (t + 1)) 60001 200 (builtR pp ws t) 0 = some (v t)) (r : Option Nat) (hr : leastGo v (sumL pp) (most + 1) 0 = r) :
    Calls Tryd.prog 35 #[.agg #[.slice Ap np cp, .slice Aw nw cw], .int .i64 most] w (RefLeast w r) := by
  have hb0 : Below w.heap.size w (w.alloc (.cells #[.slice Ap np cp, .slice Aw nw cw] 42)) := (Below.refl _ _).alloc (Nat.le_refl _) _
  have hp0 := hp.below (hb0.mono hBw)
  have hw0 := hw.below (hb0.mono hBw)
  have hs1 : w.heap.size ≤ (w.alloc (.cells #[.slice Ap np cp, .slice Aw nw cw] 42)).heap.size := hb0.size
  have hB0 : B ≤ (w.alloc (.cells #[.slice Ap np cp, .slice Aw nw cw] 42)).heap.size := Nat.le_trans hBw hs1
  have k0 : (w.alloc (.cells #[.slice Ap np cp, .slice Aw nw cw] 42)).heap[w.heap.size]? = some (.cells #[.slice Ap np cp, .slice Aw nw cw] 42 (0, 0)) := by rw [heapq_alloc, if_pos rfl]
  have a0 : (w.alloc (.cells #[.slice Ap np cp, .slice Aw nw cw] 42)).cell? ⟨w.heap.size, 0, none⟩ = some (.slice Ap np cp) := (cell_of_row _ _ 0 _ _ _ k0).trans rfl
  have a1 : (w.alloc (.cells #[.slice Ap np cp, .slice Aw nw cw] 42)).cell? ⟨w.heap.size, 1, none⟩ = some (.slice Aw nw cw) := (cell_of_row _ _ 1 _ _ _ k0).trans rfl
  have r2 : np ≤ 6 := by rw [← hl]; exact ok.few
  obtain ⟨s, hs⟩ : ∃ s, s = sumL pp := ⟨_, rfl⟩
  rw [← hs] at hr
  have PO := fun (W : World) (hW : Below (w.alloc (.cells #[.slice Ap np cp, .slice Aw nw cw] 42)).heap.size (w.alloc (.cells #[.slice Ap np cp, .slice Aw nw cw] 42)) W) => People_any W B Ap Aw np cp nw cw pp hl (hp0.below (hW.mono hB0)) (Nat.le_trans hB0 hW.size) r2 ok.people
  have OU := fun (W : World) (hW : Below (w.alloc (.cells #[.slice Ap np cp, .slice Aw nw cw] 42)).heap.size (w.alloc (.cells #[.slice Ap np cp, .slice Aw nw cw] 42)) W) (t : Nat) (ht : t ≤ most) => refOut_any W B Ap Aw np cp nw cw pp ws hl hlw (hp0.below (hW.mono hB0)) (hw0.below (hW.mono hB0)) (Nat.le_trans hB0 hW.size) ok t (by omega) (v t) (hv t ht)
  simp only [← hs] at PO
  have HR := Lib.hid hr
  have HB := Lib.hid hb0
  clear hl hlw ok hp hw hr hb0 k0 hp0 hw0 hv hs
  go_enter Tryd.func35, Tryd.ntmps35
  go_upto_region 1 with (fail)
  generalize (w.alloc (.cells #[.slice Ap np cp, .slice Aw nw cw] 42)) = w0 at *
  go_wp2
  go_loopg [6] (most + 1) (fun gk u6 wr => RLRel w0 v s most r gk u6 wr)
  case atStart => exact ⟨0, by omega, rfl, HR.out, Below.refl _ _⟩
  case round =>
    obtain ⟨t, htt, rfl, hlg, hb⟩ := hrel
    have HTT := Lib.hid htt
    have b0 := kept hb a0
    have b1 := kept hb a1
    have HBR := Lib.hid hb
    clear htt hb
    cases gk with
    | zero =>
      have ht : t = most + 1 := by have := HTT.out; omega
      have hr0 : r = none := hlg.symm
      subst ht
      subst hr0
      clear hlg
      go_wp2
      go_ret2
      exact ⟨rfl, HB.out.trans (HBR.out.mono hs1)⟩
    | succ g =>
      have htm : t ≤ most := by have := HTT.out; omega
      unfold leastGo at hlg
      have HLG := Lib.hid hlg
      clear hlg
      go_upto_region 4 with (fail)
      have x0 := fun x : Xt wr => x.cell b0
      have x1 := fun x : Xt wr => x.cell b1
      refine wp_region_eager [5] (fun w' => ∃ x : Xt wr, w' = x.1) (by kernel_rfl) ⟨⟨wr.drew, (Below.refl _ _).drew⟩, rfl⟩ ?_
      refine wpE_reads [0, 1, 3] 3 rfl (by kernel_rfl) ?_
      simp only [opsAt_nil, opsAt_cons, consOpt_some, List.getElem?_toArray, List.getElem?_cons_zero, List.getElem?_cons_succ]
      repeat (go_big_quiet_step (fail))
      refine wpQuiet_nil ?_
      have hbd : Below wr.heap.size wr wr.drew := (Below.refl _ _).drew
      show wpE _ _ _ _ _ _ _ _ _ wr.drew
      generalize wr.drew = wd at *
      have hbwd := HBR.out.trans (hbd.mono HBR.out.size)
      refine wpE_one (i := 2) rfl (by kernel_rfl) rfl ?_
      unfold wpMid
      simp only [opsAt_nil, opsAt_cons, consOpt_some, List.getElem?_toArray, List.getElem?_cons_zero, List.getElem?_cons_succ]
      go_wp2_with (go_at_call 34; refine (OU wd hbwd t htm).mono ?_; rintro e wA ⟨rfl, hbT⟩)
      have hbA := hbd.trans (hbT.mono hbd.size)
      have hbwA := hbwd.trans (hbT.mono hbwd.size)
      refine onlyNormal_mk ⟨⟨⟨_, hbA⟩, rfl⟩, ?_⟩
      refine wpE_one (i := 4) rfl (by kernel_rfl) rfl ?_
      unfold wpMid
      simp only [opsAt_nil, opsAt_cons, consOpt_some, List.getElem?_toArray, List.getElem?_cons_zero, List.getElem?_cons_succ]
      go_wp2_with (go_at_call 60; refine (PO wA hbwA).mono ?_; rintro e wB ⟨rfl, hbS⟩)
      have hbB := hbA.trans (hbS.mono hbA.size)
      have hbwB := hbwA.trans (hbS.mono hbwA.size)
      refine onlyNormal_mk ⟨⟨⟨_, hbB⟩, rfl⟩, ?_⟩
      refine wpE_tail rfl (by kernel_rfl) ?_
      simp only [opsAt_nil, opsAt_cons, consOpt_some, List.getElem?_toArray, List.getElem?_cons_zero, List.getElem?_cons_succ]
      go_wp2
      refine onlyNormal_mk ?_
      by_cases hvs : v t = s
      · have hr1 : r = some t := by
          have := HLG.out
          rw [if_pos hvs] at this
          exact this.symm
        have e0 : (v t == s) = true := beq_iff_eq.2 hvs
        subst hr1
        clear hvs
        go_wp2
        go_ret2
        exact ⟨rfl, HB.out.trans (hbwB.mono hs1)⟩
      · have hlg := HLG.out
        rw [if_neg hvs] at hlg
        have HL2 := Lib.hid hlg
        have e0 : (v t == s) = false := beq_eq_false_iff_ne.2 hvs
        clear hlg hvs
        go_wp2
        go_roundg g
        case measure => omega
        case rel => exact ⟨t + 1, by have := HTT.out; omega, by go_num, HL2.out, hbwB⟩
end Go.Proofs.YtmcjnfghlpnghaaDoor

namespace Go.Proofs.YtmcjnfghlpnghaaDoor
open Go.RowKit

set_option maxRecDepth 100000 in
set_option maxHeartbeats 8000000 in
theorem LeastTime_late (w : World) (B : Nat) (Ap Aw : Option Addr) (np cp nw cw : Nat) (pp : List Int) (ws : List Ev) (hl : pp.length = np) (hlw : ws.length = nw) (hp : Rd w B Ap (intCells pp)) (hw : Rd w B Aw (evCells ws)) (hBw : B ≤ w.heap.size)
    (h0 : (roomsM pp ws).2 = 0) (most : Nat) (hm : most ≤ 20) (hno : ∀ t, t ≤ most → ∃ o, outIs pp ws t o ∧ o ≠ sumL pp) :
    Calls Tryd.prog 31 #[.agg #[.slice Ap np cp, .slice Aw nw cw], .int .i64 most] w (LeastPost w 0 25) := by
  have ok := roomsOk_of h0
  have OK := Lib.hid ok
  have HL := Lib.hid hl
  have HLW := Lib.hid hlw
  have r1 : 1 ≤ np := by rw [← hl]; exact ok.some_
  have r2 : np ≤ 6 := by rw [← hl]; exact ok.few
  have r3 : nw ≤ 16 := by rw [← hlw]; exact ok.fewW
  have hb0 : Below w.heap.size w (w.alloc (.cells #[.slice Ap np cp, .slice Aw nw cw] 42)) := (Below.refl _ _).alloc (Nat.le_refl _) _
  have hp0 := hp.below (hb0.mono hBw)
  have hw0 := hw.below (hb0.mono hBw)
  have R := roomsErr_any Ap Aw np cp nw cw (w.alloc (.cells #[.slice Ap np cp, .slice Aw nw cw] 42)) B pp ws hl hlw hp0 hw0 (by simp; omega)
  unfold ErrVal at R
  rw [h0] at R
  have b0 : (w.alloc (.cells #[.slice Ap np cp, .slice Aw nw cw] 42)).heap[w.heap.size]? = some (.cells #[.slice Ap np cp, .slice Aw nw cw] 42 (0, 0)) := by rw [heapq_alloc, if_pos rfl]
  have Tk := fun W : World => ticksErr_any (most : Int) W
  have ht : unlessE (withinB (most : Int) 0 20) 2 = 0 := by
    have : withinB (most : Int) 0 20 = true := by simp [withinB]; omega
    rw [this]
    rfl
  simp only [ht] at Tk
  have hs0 : w.heap.size + 1 ≤ (w.alloc (.cells #[.slice Ap np cp, .slice Aw nw cw] 42)).heap.size := by simp
  have HNO := Lib.hid hno
  have HP0 := Lib.hid hp0
  have HW0 := Lib.hid hw0
  have HB0 := Lib.hid hb0
  clear ok hl hlw hp hw h0 hno ht hp0 hw0 hb0
  go_enter Tryd.func31, Tryd.ntmps31
  go_upto_region 1 with (fail)
  generalize w.alloc (.cells #[.slice Ap np cp, .slice Aw nw cw] 42) = w0 at *
  have a0 := cell_of_row w0 w.heap.size 0 _ _ _ b0
  have a1 := cell_of_row w0 w.heap.size 1 _ _ _ b0
  simp at a0 a1
  generalize hx : w.heap.size = x at *
  have HX := Lib.hid hx
  clear hx b0
  go_upto_region 2 with (first | (go_at_call 100; refine R.mono ?_; rintro e w1 ⟨rfl, hb1⟩; have a0' := kept hb1 a0; have a1' := kept hb1 a1) | (go_at_call 101; refine (Tk _).mono ?_; rintro e w' ⟨rfl, rfl⟩) | (go_at_call 91; refine (first00 _).mono ?_; rintro e w' ⟨rfl, rfl⟩))
  have c0 := cell_alloc_old (.cells #[.int .i64 0, .int .i64 0] 29) a0'
  have c1 := cell_alloc_old (.cells #[.int .i64 0, .int .i64 0] 29) a1'
  have hb2 : Below x w (w1.alloc (.cells #[.int .i64 0, .int .i64 0] 29)) := (HB0.out.trans (hb1.mono (by omega))).alloc (by have := hb1.size; omega) _
  have hp2 := (HP0.out.below (hb1.mono (by omega))).below (((Below.refl _ _).alloc (Nat.le_refl _) (.cells #[.int .i64 0, .int .i64 0] 29)).mono (by have := hb1.size; omega))
  have hw2 := (HW0.out.below (hb1.mono (by omega))).below (((Below.refl _ _).alloc (Nat.le_refl _) (.cells #[.int .i64 0, .int .i64 0] 29)).mono (by have := hb1.size; omega))
  have hs2 : B ≤ (w1.alloc (.cells #[.int .i64 0, .int .i64 0] 29)).heap.size := by have := hb1.size; simp; omega
  have hs3 : x + 1 ≤ (w1.alloc (.cells #[.int .i64 0, .int .i64 0] 29)).heap.size := by have := hb1.size; simp; omega
  have HB2 := Lib.hid hb2
  have HP2 := Lib.hid hp2
  have HW2 := Lib.hid hw2
  clear a0 a1 a0' a1' hb1 hb2 hp2 hw2 R Tk HP0 HW0 HB0
  generalize w1.alloc (.cells #[.int .i64 0, .int .i64 0] 29) = w2 at *
  go_wp2
  go_loop [7, 23] (fun u7 u23 => SumRel pp np u7 u23) (fun _ u23 => np - (intOf u23).toNat)
  case atStart => exact ⟨0, 0, Nat.zero_le _, rfl, rfl, by simp, by omega, by omega⟩
  case round =>
    obtain ⟨k, acc, hk, rfl, rfl, hacc, g0, g1⟩ := hrel
    by_cases hlt : k < np
    · have hpk : k < pp.length := by rw [HL.out]; exact hlt
      obtain ⟨bp, off, rfl, hbB, hc⟩ := HP2.out.at_ (k := k) (u := .int .i64 (pp[k]?.getD 0)) (intCells_at pp k hpk)
      have hq := OK.out.people (pp[k]?.getD 0) (by rw [List.getElem?_eq_getElem hpk, Option.getD_some]; exact List.getElem_mem hpk)
      have hd := drop_at pp 0 k hpk
      rw [hd] at hacc
      generalize pp[k]?.getD 0 = q at *
      obtain ⟨q0, q1⟩ := hq
      have hac2 : acc + q + sumL (pp.drop (k + 1)) = sumL pp := by simp only [sumL] at hacc; omega
      have HAC2 := Lib.hid hac2
      clear hacc hac2 hd hpk
      go_wp2
      go_round
      case rel => exact ⟨k + 1, acc + q, by omega, by go_num, rfl, HAC2.out, by omega, by omega⟩
      case measure => simp [intOf]; omega
    · obtain rfl : k = np := by omega
      have hd : pp.drop k = [] := by rw [List.drop_eq_nil_iff]; rw [HL.out]; exact Nat.le_refl _
      rw [hd] at hacc
      simp only [sumL, Int.add_zero] at hacc
      have HACC := Lib.hid hacc
      clear hacc hd
      go_wp2
      go_loopw [33] (fun u33 wr => TimeRel w2 (most + 1) u33 wr) (fun u33 _ => most + 1 - (intOf u33).toNat)
      case atStart => exact ⟨0, Nat.zero_le _, rfl, Below.refl _ _⟩
      case round =>
        obtain ⟨t, htn, rfl, hb⟩ := hrel
        have c0' := kept hb c0
        have c1' := kept hb c1
        have hpr := HP2.out.below (hb.mono hs2)
        have hwr := HW2.out.below (hb.mono hs2)
        have hsz := hb.size
        have HB := Lib.hid hb
        clear hb c0 c1
        by_cases htn2 : t = most + 1
        · have hlt : ¬ (t : Int) < (most : Int) + 1 := by omega
          clear hpr hwr htn2 htn
          go_wp2
          go_ret2
          refine ⟨rfl, ?_⟩
          rw [HX.out]
          exact HB2.out.trans (HB.out.mono (by omega))
        · have hlt : (t : Int) < (most : Int) + 1 := by omega
          obtain ⟨o, ⟨kk, ff, F, hrun, ho⟩, hne⟩ := HNO.out t (by omega)
          have C := flowOf_any wr B Ap Aw k cp nw cw pp ws HL.out HLW.out hpr hwr (by omega) OK.out t (by omega) kk ff F hrun
          have hoq : (F.o == acc) = false := beq_eq_false_iff_ne.2 (by rw [ho, HACC.out]; exact hne)
          clear hrun ho hpr hwr hne
          go_upto_region 13 with (fail)
          go_wp2_with (go_at_call 102; refine C.mono ?_; rintro e w3 ⟨g, rfl, hfa, hb3⟩; have g6 := hfa.out; clear hfa)
          go_roundw
          case rel => exact ⟨t + 1, by omega, by go_num, HB.out.trans (hb3.mono hsz)⟩
          case measure => simp [intOf]; omega

theorem leastGo_spec {v : Nat → Int} {s : Int} : ∀ (c t : Nat),
    (∀ n, leastGo v s c t = some n → t ≤ n ∧ n < t + c ∧ v n = s ∧ ∀ k, t ≤ k → k < n → v k ≠ s) ∧ (leastGo v s c t = none → ∀ k, t ≤ k → k < t + c → v k ≠ s)
  | 0, t => ⟨fun n h => (by cases h), fun _ k h1 h2 => (by omega)⟩
  | c + 1, t => by
    obtain ⟨i1, i2⟩ := leastGo_spec (v := v) (s := s) c (t + 1)
    unfold leastGo
    by_cases h : v t = s
    · rw [if_pos h]
      refine ⟨fun n hn => ?_, fun hn => by cases hn⟩
      obtain rfl := Option.some.inj hn
      exact ⟨Nat.le_refl _, by omega, h, fun k h1 h2 => by omega⟩
    · rw [if_neg h]
      refine ⟨fun n hn => ?_, fun hn k h1 h2 => ?_⟩
      · obtain ⟨a, b, c', d⟩ := i1 n hn
        refine ⟨by omega, by omega, c', fun k h1 h2 => ?_⟩
        rcases Nat.lt_or_ge t k with h3 | h3
        · exact d k h3 h2
        · obtain rfl : k = t := by omega
          exact h
      · rcases Nat.lt_or_ge t k with h3 | h3
        · exact i2 hn k h3 (by omega)
        · obtain rfl : k = t := by omega
          exact h

/-- the least time and the error of the code -/
def leastN : Option Nat → Int
  | some n => n
  | none => 0
def leastE : Option Nat → Int
  | some _ => 0
  | none => 25

theorem LeastTime_any (w : World) (B : Nat) (Ap Aw : Option Addr) (np cp nw cw : Nat) (pp : List Int) (ws : List Ev) (hl : pp.length = np) (hlw : ws.length = nw) (hp : Rd w B Ap (intCells pp)) (hw : Rd w B Aw (evCells ws)) (hBw : B ≤ w.heap.size)
    (h0 : (roomsM pp ws).2 = 0) (most : Nat) (hm : most ≤ 20) (v : Nat → Int) (hv : ∀ t, t ≤ most → outIs pp ws t (v t)) (r : Option Nat) (hr : leastGo v (sumL pp) (most + 1) 0 = r) :
    Calls Tryd.prog 31 #[.agg #[.slice Ap np cp, .slice Aw nw cw], .int .i64 most] w (LeastPost w (leastN r) (leastE r)) := by
  obtain ⟨s1, s2⟩ := leastGo_spec (v := v) (s := sumL pp) (most + 1) 0
  cases r with
  | some n =>
    obtain ⟨_, a, b, c⟩ := s1 n hr
    exact LeastTime_yes w B Ap Aw np cp nw cw pp ws hl hlw hp hw hBw h0 most hm n (by omega) (by rw [← b]; exact hv n (by omega)) (fun t ht => ⟨v t, hv t (by omega), c t (Nat.zero_le _) ht⟩)
  | none => exact LeastTime_late w B Ap Aw np cp nw cw pp ws hl hlw hp hw hBw h0 most hm (fun t ht => ⟨v t, hv t ht, s2 hr t (Nat.zero_le _) (by omega)⟩)
end Go.Proofs.YtmcjnfghlpnghaaDoor

namespace Go.Proofs.YtmcjnfghlpnghaaDoor
open Go.RowKit

theorem flows_all {pp : List Int} {ws : List Ev} (ok : RoomsOk pp ws) : ∃ v : Nat → Int, ∀ t, t ≤ 20 → (∃ F, runM 60001 129 (builtM pp ws t) = some F ∧ F.o = v t) ∧ runR (1 + pp.length * (t + 1)) 60001 200 (builtR pp ws t) 0 = some (v t) := by
  have h : ∀ t : Nat, ∃ o : Int, t ≤ 20 → (∃ F, runM 60001 129 (builtM pp ws t) = some F ∧ F.o = o) ∧ runR (1 + pp.length * (t + 1)) 60001 200 (builtR pp ws t) 0 = some o := fun t => by
    by_cases ht : t ≤ 20
    · obtain ⟨F, h1, h2⟩ := same_flow ok t ht
      exact ⟨F.o, fun _ => ⟨⟨F, h1, rfl⟩, h2⟩⟩
    · exact ⟨0, fun h => absurd h ht⟩
  exact Classical.axiomOfChoice h

theorem rtE_rooms {pp : List Int} {ws : List Ev} {ticks : Int} (h : (roomsM pp ws).2 ≠ 0) : rtE pp ws ticks = (roomsM pp ws).2 := by
  unfold rtE firstE
  simp [h]
theorem rtE_ticks {pp : List Int} {ws : List Ev} {ticks : Int} (h : (roomsM pp ws).2 = 0) : rtE pp ws ticks = ticksE ticks := by
  unfold rtE firstE
  simp only [h]
  by_cases h0 : ticksE ticks = 0 <;> simp [firstE, h0]

set_option maxRecDepth 100000 in
set_option maxHeartbeats 4000000 in
theorem CareOut_all (w : World) (Ap Aw : Option Addr) (np cp nw cw : Nat) (pp : List Int) (ws : List Ev) (ticks : Int) (hk : KindsAt w) (hl : pp.length = np) (hlw : ws.length = nw) (hp : Rd w w.heap.size Ap (intCells pp)) (hw : Rd w w.heap.size Aw (evCells ws)) :
    Calls Tryd.prog 4 #[.agg #[.slice Ap np cp, .slice Aw nw cw], .int .i64 ticks] w (AwakePost w) := by
  have hb0 : Below w.heap.size w (w.alloc (.cells #[.slice Ap np cp, .slice Aw nw cw] 42)) := (Below.refl _ _).alloc (Nat.le_refl _) _
  replace hp := hp.below hb0
  replace hw := hw.below hb0
  have hs : w.heap.size ≤ (w.alloc (.cells #[.slice Ap np cp, .slice Aw nw cw] 42)).heap.size := hb0.size
  have k0 : (w.alloc (.cells #[.slice Ap np cp, .slice Aw nw cw] 42)).heap[w.heap.size]? = some (.cells #[.slice Ap np cp, .slice Aw nw cw] 42 (0, 0)) := by rw [heapq_alloc, if_pos rfl]
  have a0 : (w.alloc (.cells #[.slice Ap np cp, .slice Aw nw cw] 42)).cell? ⟨w.heap.size, 0, none⟩ = some (.slice Ap np cp) := (cell_of_row _ _ 0 _ _ _ k0).trans rfl
  have a1 : (w.alloc (.cells #[.slice Ap np cp, .slice Aw nw cw] 42)).cell? ⟨w.heap.size, 1, none⟩ = some (.slice Aw nw cw) := (cell_of_row _ _ 1 _ _ _ k0).trans rfl
  have A0 := awake_any _ (hk.below hb0)
  have HB := Lib.hid hb0
  have HL := Lib.hid hl
  have HLW := Lib.hid hlw
  clear hl hlw hb0 k0 hk
  go_enter Tryd.func4, Tryd.ntmps4
  go_upto_region 1 with (fail)
  generalize (w.alloc (.cells #[.slice Ap np cp, .slice Aw nw cw] 42)) = w0 at *
  go_wp2_with fail
  refine A0.mono ?_
  rintro e w1 ⟨rfl, hb1⟩
  replace a0 := kept hb1 a0
  replace a1 := kept hb1 a1
  replace hp := hp.below (hb1.mono hs)
  replace hw := hw.below (hb1.mono hs)
  replace HB := Lib.hid (HB.out.trans (hb1.mono hs))
  replace hs := Nat.le_trans hs hb1.size
  clear hb1
  clear A0
  cases hr : roomsB np nw with
  | false =>
    have RB := rooms_any w1 Ap Aw np cp nw cw false hr
    clear hr
    go_wp2_with fail
    refine RB.mono ?_
    rintro e w2 ⟨rfl, hb1⟩
    go_wp2
    go_ret
    exact ⟨rfl, HB.out.trans (hb1.mono hs)⟩
  | true =>
    have RB := rooms_any w1 Ap Aw np cp nw cw true hr
    have g1 : np ≤ 8 ∧ nw ≤ 18 := by
      simp only [roomsB, Bool.and_eq_true, Bool.or_eq_true, decide_eq_true_eq] at hr
      omega
    obtain ⟨g1, g2⟩ := g1
    clear hr
    go_wp2_with fail
    refine RB.mono ?_
    rintro e w2 ⟨rfl, hb1⟩
    replace a0 := kept hb1 a0
    replace a1 := kept hb1 a1
    replace hp := hp.below (hb1.mono hs)
    replace hw := hw.below (hb1.mono hs)
    replace HB := Lib.hid (HB.out.trans (hb1.mono hs))
    replace hs := Nat.le_trans hs hb1.size
    clear hb1
    clear RB
    cases hb : (decide (ticks ≤ 6) || decide (20 < ticks)) with
    | false =>
      have BR := fun W => brief_any ticks false hb W
      clear hb
      go_wp2_with fail
      refine (BR _).mono ?_
      rintro e w3 ⟨rfl, rfl⟩
      go_wp2
      go_ret
      exact ⟨rfl, HB.out⟩
    | true =>
      have BR := fun W => brief_any ticks true hb W
      clear hb
      go_wp2_with fail
      refine (BR _).mono ?_
      rintro e w3 ⟨rfl, rfl⟩
      clear BR
      have CK := fun W B A1 A2 c1 c2 (h1 : Rd W B A1 (intCells pp)) (h2 : Rd W B A2 (evCells ws)) (h3 : B ≤ W.heap.size) => CheckRooms_any A1 A2 np c1 nw c2 W B pp ws HL.out HLW.out h1 h2 h3
      have RK := fun W B A1 A2 c1 c2 (h1 : Rd W B A1 (intCells pp)) (h2 : Rd W B A2 (evCells ws)) (h3 : B ≤ W.heap.size) => refRooms_any A1 A2 np c1 nw c2 W B pp ws HL.out HLW.out h1 h2 h3
      unfold RoomsVal at CK RK
      by_cases hd : (roomsM pp ws).2 = 0
      · by_cases ht : ticksE ticks = 0
        · have hrt : rtE pp ws ticks = 0 := by rw [rtE_ticks hd]; exact ht
          obtain ⟨_, T, rfl, hT⟩ := rtE_zero hrt
          have ok := roomsOk_of hd
          obtain ⟨v, hv⟩ := flows_all ok
          obtain ⟨⟨F, hF, hFo⟩, hR⟩ := hv T hT
          have OU := fun W B A1 A2 c1 c2 (h1 : Rd W B A1 (intCells pp)) (h2 : Rd W B A2 (evCells ws)) (h3 : B ≤ W.heap.size) => OutBy_yes W B A1 A2 np c1 nw c2 pp ws HL.out HLW.out h1 h2 h3 T hrt 60001 129 F hF
          have RO := fun W B A1 A2 c1 c2 (h1 : Rd W B A1 (intCells pp)) (h2 : Rd W B A2 (evCells ws)) (h3 : B ≤ W.heap.size) => refOut_any W B A1 A2 np c1 nw c2 pp ws HL.out HLW.out h1 h2 h3 ok T hT (v T) (by rw [← HL.out]; exact hR)
          have LL := fun (r : Option Nat) (hr : leastGo v (sumL pp) (T + 1) 0 = r) W B A1 A2 c1 c2 (h1 : Rd W B A1 (intCells pp)) (h2 : Rd W B A2 (evCells ws)) (h3 : B ≤ W.heap.size) => LeastTime_any W B A1 A2 np c1 nw c2 pp ws HL.out HLW.out h1 h2 h3 hd T hT v (fun t ht => by
            obtain ⟨F', x1, x2⟩ := (hv t (by omega)).1
            exact ⟨_, _, F', x1, x2⟩) r hr
          have RL := fun (r : Option Nat) (hr : leastGo v (sumL pp) (T + 1) 0 = r) W B A1 A2 c1 c2 (h1 : Rd W B A1 (intCells pp)) (h2 : Rd W B A2 (evCells ws)) (h3 : B ≤ W.heap.size) => refLeast_any W B A1 A2 np c1 nw c2 pp ws HL.out HLW.out h1 h2 h3 ok T hT v (fun t ht => by
            rw [← HL.out]
            exact (hv t (by omega)).2) r hr
          have Tk := fun W => TicksErr_any (T : Int) W
          simp only [ht] at Tk
          simp only [hd] at CK RK
          rw [hFo] at OU
          unfold LeastPost at OU LL
          unfold RefOut at RO
          unfold RefLeast at RL
          generalize (roomsM pp ws).1 = k0 at *
          generalize v T = o at *
          clear hd ht hrt ok hv hF hFo hR
          cases hr : leastGo v (sumL pp) (T + 1) 0 with
          | none =>
            replace LE := LL none hr
            replace RE := RL none hr
            simp only [leastN, leastE, refLeastV] at LE RE
            clear LL RL hr
            go_wp2_with fail
            refine (CopyRooms_any w2 w.heap.size Ap Aw np cp nw cw pp ws HL.out HLW.out (by omega) (by omega) hp hw hs).mono ?_
            rintro e w4 ⟨A1, c1, A2, c2, rfl, hp1, hw1, hb1⟩
            replace a0 := kept hb1 a0
            replace a1 := kept hb1 a1
            replace hp := hp.below (hb1.mono hs)
            replace hw := hw.below (hb1.mono hs)
            replace HB := Lib.hid (HB.out.trans (hb1.mono hs))
            replace hs := Nat.le_trans hs hb1.size
            clear hb1
            go_wp2_with fail
            refine (CK w4 w4.heap.size A1 A2 c1 c2 hp1 hw1 (Nat.le_refl _)).mono ?_
            rintro e w5 ⟨rfl, hb1⟩
            replace a0 := kept hb1 a0
            replace a1 := kept hb1 a1
            replace hp := hp.below (hb1.mono hs)
            replace hw := hw.below (hb1.mono hs)
            replace HB := Lib.hid (HB.out.trans (hb1.mono hs))
            replace hs := Nat.le_trans hs hb1.size
            clear hb1
            clear hp1 hw1
            go_wp2_with fail
            refine (CopyRooms_any w5 w.heap.size Ap Aw np cp nw cw pp ws HL.out HLW.out (by omega) (by omega) hp hw hs).mono ?_
            rintro e w6 ⟨A1, c1, A2, c2, rfl, hp1, hw1, hb1⟩
            replace a0 := kept hb1 a0
            replace a1 := kept hb1 a1
            replace hp := hp.below (hb1.mono hs)
            replace hw := hw.below (hb1.mono hs)
            replace HB := Lib.hid (HB.out.trans (hb1.mono hs))
            replace hs := Nat.le_trans hs hb1.size
            clear hb1
            go_wp2_with fail
            refine (OU w6 w6.heap.size A1 A2 c1 c2 hp1 hw1 (Nat.le_refl _)).mono ?_
            rintro e w7 ⟨rfl, hb1⟩
            replace a0 := kept hb1 a0
            replace a1 := kept hb1 a1
            replace hp := hp.below (hb1.mono hs)
            replace hw := hw.below (hb1.mono hs)
            replace HB := Lib.hid (HB.out.trans (hb1.mono hs))
            replace hs := Nat.le_trans hs hb1.size
            clear hb1
            clear hp1 hw1
            go_wp2_with fail
            refine (CopyRooms_any w7 w.heap.size Ap Aw np cp nw cw pp ws HL.out HLW.out (by omega) (by omega) hp hw hs).mono ?_
            rintro e w8 ⟨A1, c1, A2, c2, rfl, hp1, hw1, hb1⟩
            replace a0 := kept hb1 a0
            replace a1 := kept hb1 a1
            replace hp := hp.below (hb1.mono hs)
            replace hw := hw.below (hb1.mono hs)
            replace HB := Lib.hid (HB.out.trans (hb1.mono hs))
            replace hs := Nat.le_trans hs hb1.size
            clear hb1
            go_wp2_with fail
            refine (LE w8 w8.heap.size A1 A2 c1 c2 hp1 hw1 (Nat.le_refl _)).mono ?_
            rintro e w9 ⟨rfl, hb1⟩
            replace a0 := kept hb1 a0
            replace a1 := kept hb1 a1
            replace hp := hp.below (hb1.mono hs)
            replace hw := hw.below (hb1.mono hs)
            replace HB := Lib.hid (HB.out.trans (hb1.mono hs))
            replace hs := Nat.le_trans hs hb1.size
            clear hb1
            clear hp1 hw1
            go_wp2_with fail
            refine (RK w9 w.heap.size Ap Aw cp cw hp hw hs).mono ?_
            rintro e w10 ⟨rfl, hb1⟩
            replace a0 := kept hb1 a0
            replace a1 := kept hb1 a1
            replace hp := hp.below (hb1.mono hs)
            replace hw := hw.below (hb1.mono hs)
            replace HB := Lib.hid (HB.out.trans (hb1.mono hs))
            replace hs := Nat.le_trans hs hb1.size
            clear hb1
            go_wp2_with (go_at_call 33; refine (Tk _).mono ?_; rintro e w' ⟨rfl, rfl⟩)
            refine (RO w10 w.heap.size Ap Aw cp cw hp hw hs).mono ?_
            rintro e w11 ⟨rfl, hb1⟩
            replace a0 := kept hb1 a0
            replace a1 := kept hb1 a1
            replace hp := hp.below (hb1.mono hs)
            replace hw := hw.below (hb1.mono hs)
            replace HB := Lib.hid (HB.out.trans (hb1.mono hs))
            replace hs := Nat.le_trans hs hb1.size
            clear hb1
            go_wp2_with fail
            refine (RE w11 w.heap.size Ap Aw cp cw hp hw hs).mono ?_
            rintro e w12 ⟨rfl, hb1⟩
            replace a0 := kept hb1 a0
            replace a1 := kept hb1 a1
            replace hp := hp.below (hb1.mono hs)
            replace hw := hw.below (hb1.mono hs)
            replace HB := Lib.hid (HB.out.trans (hb1.mono hs))
            replace hs := Nat.le_trans hs hb1.size
            clear hb1
            go_wp2
            go_ret
            exact ⟨rfl, HB.out⟩
          | some n =>
            replace LE := LL (some n) hr
            replace RE := RL (some n) hr
            simp only [leastN, leastE, refLeastV] at LE RE
            clear LL RL hr
            go_wp2_with fail
            refine (CopyRooms_any w2 w.heap.size Ap Aw np cp nw cw pp ws HL.out HLW.out (by omega) (by omega) hp hw hs).mono ?_
            rintro e w4 ⟨A1, c1, A2, c2, rfl, hp1, hw1, hb1⟩
            replace a0 := kept hb1 a0
            replace a1 := kept hb1 a1
            replace hp := hp.below (hb1.mono hs)
            replace hw := hw.below (hb1.mono hs)
            replace HB := Lib.hid (HB.out.trans (hb1.mono hs))
            replace hs := Nat.le_trans hs hb1.size
            clear hb1
            go_wp2_with fail
            refine (CK w4 w4.heap.size A1 A2 c1 c2 hp1 hw1 (Nat.le_refl _)).mono ?_
            rintro e w5 ⟨rfl, hb1⟩
            replace a0 := kept hb1 a0
            replace a1 := kept hb1 a1
            replace hp := hp.below (hb1.mono hs)
            replace hw := hw.below (hb1.mono hs)
            replace HB := Lib.hid (HB.out.trans (hb1.mono hs))
            replace hs := Nat.le_trans hs hb1.size
            clear hb1
            clear hp1 hw1
            go_wp2_with fail
            refine (CopyRooms_any w5 w.heap.size Ap Aw np cp nw cw pp ws HL.out HLW.out (by omega) (by omega) hp hw hs).mono ?_
            rintro e w6 ⟨A1, c1, A2, c2, rfl, hp1, hw1, hb1⟩
            replace a0 := kept hb1 a0
            replace a1 := kept hb1 a1
            replace hp := hp.below (hb1.mono hs)
            replace hw := hw.below (hb1.mono hs)
            replace HB := Lib.hid (HB.out.trans (hb1.mono hs))
            replace hs := Nat.le_trans hs hb1.size
            clear hb1
            go_wp2_with fail
            refine (OU w6 w6.heap.size A1 A2 c1 c2 hp1 hw1 (Nat.le_refl _)).mono ?_
            rintro e w7 ⟨rfl, hb1⟩
            replace a0 := kept hb1 a0
            replace a1 := kept hb1 a1
            replace hp := hp.below (hb1.mono hs)
            replace hw := hw.below (hb1.mono hs)
            replace HB := Lib.hid (HB.out.trans (hb1.mono hs))
            replace hs := Nat.le_trans hs hb1.size
            clear hb1
            clear hp1 hw1
            go_wp2_with fail
            refine (CopyRooms_any w7 w.heap.size Ap Aw np cp nw cw pp ws HL.out HLW.out (by omega) (by omega) hp hw hs).mono ?_
            rintro e w8 ⟨A1, c1, A2, c2, rfl, hp1, hw1, hb1⟩
            replace a0 := kept hb1 a0
            replace a1 := kept hb1 a1
            replace hp := hp.below (hb1.mono hs)
            replace hw := hw.below (hb1.mono hs)
            replace HB := Lib.hid (HB.out.trans (hb1.mono hs))
            replace hs := Nat.le_trans hs hb1.size
            clear hb1
            go_wp2_with fail
            refine (LE w8 w8.heap.size A1 A2 c1 c2 hp1 hw1 (Nat.le_refl _)).mono ?_
            rintro e w9 ⟨rfl, hb1⟩
            replace a0 := kept hb1 a0
            replace a1 := kept hb1 a1
            replace hp := hp.below (hb1.mono hs)
            replace hw := hw.below (hb1.mono hs)
            replace HB := Lib.hid (HB.out.trans (hb1.mono hs))
            replace hs := Nat.le_trans hs hb1.size
            clear hb1
            clear hp1 hw1
            go_wp2_with fail
            refine (RK w9 w.heap.size Ap Aw cp cw hp hw hs).mono ?_
            rintro e w10 ⟨rfl, hb1⟩
            replace a0 := kept hb1 a0
            replace a1 := kept hb1 a1
            replace hp := hp.below (hb1.mono hs)
            replace hw := hw.below (hb1.mono hs)
            replace HB := Lib.hid (HB.out.trans (hb1.mono hs))
            replace hs := Nat.le_trans hs hb1.size
            clear hb1
            go_wp2_with (go_at_call 33; refine (Tk _).mono ?_; rintro e w' ⟨rfl, rfl⟩)
            refine (RO w10 w.heap.size Ap Aw cp cw hp hw hs).mono ?_
            rintro e w11 ⟨rfl, hb1⟩
            replace a0 := kept hb1 a0
            replace a1 := kept hb1 a1
            replace hp := hp.below (hb1.mono hs)
            replace hw := hw.below (hb1.mono hs)
            replace HB := Lib.hid (HB.out.trans (hb1.mono hs))
            replace hs := Nat.le_trans hs hb1.size
            clear hb1
            go_wp2_with fail
            refine (RE w11 w.heap.size Ap Aw cp cw hp hw hs).mono ?_
            rintro e w12 ⟨rfl, hb1⟩
            replace a0 := kept hb1 a0
            replace a1 := kept hb1 a1
            replace hp := hp.below (hb1.mono hs)
            replace hw := hw.below (hb1.mono hs)
            replace HB := Lib.hid (HB.out.trans (hb1.mono hs))
            replace hs := Nat.le_trans hs hb1.size
            clear hb1
            go_wp2
            go_ret
            exact ⟨rfl, HB.out⟩
        · have hrt : rtE pp ws ticks = ticksE ticks := rtE_ticks hd
          have hne : rtE pp ws ticks ≠ 0 := by rw [hrt]; exact ht
          have OU := fun W B A1 A2 c1 c2 (h1 : Rd W B A1 (intCells pp)) (h2 : Rd W B A2 (evCells ws)) (h3 : B ≤ W.heap.size) => OutBy_no W B A1 A2 np c1 nw c2 pp ws HL.out HLW.out h1 h2 h3 ticks hne
          have LE := fun W B A1 A2 c1 c2 (h1 : Rd W B A1 (intCells pp)) (h2 : Rd W B A2 (evCells ws)) (h3 : B ≤ W.heap.size) => LeastTime_no W B A1 A2 np c1 nw c2 pp ws HL.out HLW.out h1 h2 h3 ticks hne
          have Tk := fun W => TicksErr_any ticks W
          unfold LeastPost at OU LE
          simp only [hrt] at OU LE
          simp only [hd] at CK RK
          have e1 : (ticksE ticks != 0) = true := bne_iff_ne.2 ht
          generalize (roomsM pp ws).1 = k0 at *
          generalize ticksE ticks = d0 at *
          clear hd ht hrt hne
          go_wp2_with fail
          refine (CopyRooms_any w2 w.heap.size Ap Aw np cp nw cw pp ws HL.out HLW.out (by omega) (by omega) hp hw hs).mono ?_
          rintro e w4 ⟨A1, c1, A2, c2, rfl, hp1, hw1, hb1⟩
          replace a0 := kept hb1 a0
          replace a1 := kept hb1 a1
          replace hp := hp.below (hb1.mono hs)
          replace hw := hw.below (hb1.mono hs)
          replace HB := Lib.hid (HB.out.trans (hb1.mono hs))
          replace hs := Nat.le_trans hs hb1.size
          clear hb1
          go_wp2_with fail
          refine (CK w4 w4.heap.size A1 A2 c1 c2 hp1 hw1 (Nat.le_refl _)).mono ?_
          rintro e w5 ⟨rfl, hb1⟩
          replace a0 := kept hb1 a0
          replace a1 := kept hb1 a1
          replace hp := hp.below (hb1.mono hs)
          replace hw := hw.below (hb1.mono hs)
          replace HB := Lib.hid (HB.out.trans (hb1.mono hs))
          replace hs := Nat.le_trans hs hb1.size
          clear hb1
          clear hp1 hw1
          go_wp2_with fail
          refine (CopyRooms_any w5 w.heap.size Ap Aw np cp nw cw pp ws HL.out HLW.out (by omega) (by omega) hp hw hs).mono ?_
          rintro e w6 ⟨A1, c1, A2, c2, rfl, hp1, hw1, hb1⟩
          replace a0 := kept hb1 a0
          replace a1 := kept hb1 a1
          replace hp := hp.below (hb1.mono hs)
          replace hw := hw.below (hb1.mono hs)
          replace HB := Lib.hid (HB.out.trans (hb1.mono hs))
          replace hs := Nat.le_trans hs hb1.size
          clear hb1
          go_wp2_with fail
          refine (OU w6 w6.heap.size A1 A2 c1 c2 hp1 hw1 (Nat.le_refl _)).mono ?_
          rintro e w7 ⟨rfl, hb1⟩
          replace a0 := kept hb1 a0
          replace a1 := kept hb1 a1
          replace hp := hp.below (hb1.mono hs)
          replace hw := hw.below (hb1.mono hs)
          replace HB := Lib.hid (HB.out.trans (hb1.mono hs))
          replace hs := Nat.le_trans hs hb1.size
          clear hb1
          clear hp1 hw1
          go_wp2_with fail
          refine (CopyRooms_any w7 w.heap.size Ap Aw np cp nw cw pp ws HL.out HLW.out (by omega) (by omega) hp hw hs).mono ?_
          rintro e w8 ⟨A1, c1, A2, c2, rfl, hp1, hw1, hb1⟩
          replace a0 := kept hb1 a0
          replace a1 := kept hb1 a1
          replace hp := hp.below (hb1.mono hs)
          replace hw := hw.below (hb1.mono hs)
          replace HB := Lib.hid (HB.out.trans (hb1.mono hs))
          replace hs := Nat.le_trans hs hb1.size
          clear hb1
          go_wp2_with fail
          refine (LE w8 w8.heap.size A1 A2 c1 c2 hp1 hw1 (Nat.le_refl _)).mono ?_
          rintro e w9 ⟨rfl, hb1⟩
          replace a0 := kept hb1 a0
          replace a1 := kept hb1 a1
          replace hp := hp.below (hb1.mono hs)
          replace hw := hw.below (hb1.mono hs)
          replace HB := Lib.hid (HB.out.trans (hb1.mono hs))
          replace hs := Nat.le_trans hs hb1.size
          clear hb1
          clear hp1 hw1
          go_wp2_with fail
          refine (RK w9 w.heap.size Ap Aw cp cw hp hw hs).mono ?_
          rintro e w10 ⟨rfl, hb1⟩
          replace a0 := kept hb1 a0
          replace a1 := kept hb1 a1
          replace hp := hp.below (hb1.mono hs)
          replace hw := hw.below (hb1.mono hs)
          replace HB := Lib.hid (HB.out.trans (hb1.mono hs))
          replace hs := Nat.le_trans hs hb1.size
          clear hb1
          go_wp2_with (go_at_call 33; refine (Tk _).mono ?_; rintro e w' ⟨rfl, rfl⟩)
          go_ret
          exact ⟨rfl, HB.out⟩
      · have hrt : rtE pp ws ticks = (roomsM pp ws).2 := rtE_rooms hd
        have hne : rtE pp ws ticks ≠ 0 := by rw [hrt]; exact hd
        have OU := fun W B A1 A2 c1 c2 (h1 : Rd W B A1 (intCells pp)) (h2 : Rd W B A2 (evCells ws)) (h3 : B ≤ W.heap.size) => OutBy_no W B A1 A2 np c1 nw c2 pp ws HL.out HLW.out h1 h2 h3 ticks hne
        have LE := fun W B A1 A2 c1 c2 (h1 : Rd W B A1 (intCells pp)) (h2 : Rd W B A2 (evCells ws)) (h3 : B ≤ W.heap.size) => LeastTime_no W B A1 A2 np c1 nw c2 pp ws HL.out HLW.out h1 h2 h3 ticks hne
        unfold LeastPost at OU LE
        simp only [hrt] at OU LE
        have e1 : ((roomsM pp ws).2 != 0) = true := bne_iff_ne.2 hd
        have e2 : ((roomsM pp ws).2 == 0) = false := beq_eq_false_iff_ne.2 hd
        generalize (roomsM pp ws).1 = k0 at *
        generalize (roomsM pp ws).2 = d0 at *
        clear hd hrt hne
        go_wp2_with fail
        refine (CopyRooms_any w2 w.heap.size Ap Aw np cp nw cw pp ws HL.out HLW.out (by omega) (by omega) hp hw hs).mono ?_
        rintro e w4 ⟨A1, c1, A2, c2, rfl, hp1, hw1, hb1⟩
        replace a0 := kept hb1 a0
        replace a1 := kept hb1 a1
        replace hp := hp.below (hb1.mono hs)
        replace hw := hw.below (hb1.mono hs)
        replace HB := Lib.hid (HB.out.trans (hb1.mono hs))
        replace hs := Nat.le_trans hs hb1.size
        clear hb1
        go_wp2_with fail
        refine (CK w4 w4.heap.size A1 A2 c1 c2 hp1 hw1 (Nat.le_refl _)).mono ?_
        rintro e w5 ⟨rfl, hb1⟩
        replace a0 := kept hb1 a0
        replace a1 := kept hb1 a1
        replace hp := hp.below (hb1.mono hs)
        replace hw := hw.below (hb1.mono hs)
        replace HB := Lib.hid (HB.out.trans (hb1.mono hs))
        replace hs := Nat.le_trans hs hb1.size
        clear hb1
        clear hp1 hw1
        go_wp2_with fail
        refine (CopyRooms_any w5 w.heap.size Ap Aw np cp nw cw pp ws HL.out HLW.out (by omega) (by omega) hp hw hs).mono ?_
        rintro e w6 ⟨A1, c1, A2, c2, rfl, hp1, hw1, hb1⟩
        replace a0 := kept hb1 a0
        replace a1 := kept hb1 a1
        replace hp := hp.below (hb1.mono hs)
        replace hw := hw.below (hb1.mono hs)
        replace HB := Lib.hid (HB.out.trans (hb1.mono hs))
        replace hs := Nat.le_trans hs hb1.size
        clear hb1
        go_wp2_with fail
        refine (OU w6 w6.heap.size A1 A2 c1 c2 hp1 hw1 (Nat.le_refl _)).mono ?_
        rintro e w7 ⟨rfl, hb1⟩
        replace a0 := kept hb1 a0
        replace a1 := kept hb1 a1
        replace hp := hp.below (hb1.mono hs)
        replace hw := hw.below (hb1.mono hs)
        replace HB := Lib.hid (HB.out.trans (hb1.mono hs))
        replace hs := Nat.le_trans hs hb1.size
        clear hb1
        clear hp1 hw1
        go_wp2_with fail
        refine (CopyRooms_any w7 w.heap.size Ap Aw np cp nw cw pp ws HL.out HLW.out (by omega) (by omega) hp hw hs).mono ?_
        rintro e w8 ⟨A1, c1, A2, c2, rfl, hp1, hw1, hb1⟩
        replace a0 := kept hb1 a0
        replace a1 := kept hb1 a1
        replace hp := hp.below (hb1.mono hs)
        replace hw := hw.below (hb1.mono hs)
        replace HB := Lib.hid (HB.out.trans (hb1.mono hs))
        replace hs := Nat.le_trans hs hb1.size
        clear hb1
        go_wp2_with fail
        refine (LE w8 w8.heap.size A1 A2 c1 c2 hp1 hw1 (Nat.le_refl _)).mono ?_
        rintro e w9 ⟨rfl, hb1⟩
        replace a0 := kept hb1 a0
        replace a1 := kept hb1 a1
        replace hp := hp.below (hb1.mono hs)
        replace hw := hw.below (hb1.mono hs)
        replace HB := Lib.hid (HB.out.trans (hb1.mono hs))
        replace hs := Nat.le_trans hs hb1.size
        clear hb1
        clear hp1 hw1
        go_wp2_with fail
        refine (RK w9 w.heap.size Ap Aw cp cw hp hw hs).mono ?_
        rintro e w10 ⟨rfl, hb1⟩
        replace a0 := kept hb1 a0
        replace a1 := kept hb1 a1
        replace hp := hp.below (hb1.mono hs)
        replace hw := hw.below (hb1.mono hs)
        replace HB := Lib.hid (HB.out.trans (hb1.mono hs))
        replace hs := Nat.le_trans hs hb1.size
        clear hb1
        go_wp2
        go_ret
        exact ⟨rfl, HB.out⟩
end Go.Proofs.YtmcjnfghlpnghaaDoor
