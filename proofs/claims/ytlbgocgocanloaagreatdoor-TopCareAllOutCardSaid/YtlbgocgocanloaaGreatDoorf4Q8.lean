/- A square of numbers in memory. -/
import Derived.Test.YtlbgocgocanloaaGreatDoorf4Q1
import Derived.Test.YtlbgocgocanloaaGreatDoorf4P2
import Derived.Test.YtlbgocgocanloaaGreatDoorf4S1
import Derived.Test.YtlbgocgocanloaaGreatDoorf4Y1
import Derived.Test.YtlbgocgocanloaaGreatDoorf4P7
import Derived.Deep.CutRange
import Derived.Test.YtlbgocgocanloaaGreatDoorf4C11
namespace Go.Proofs.YtlbgocgocanloaaGreatDoor
open Go.RowKit
def rowsV (bl : List Nat) (V : Nat) : List Value := bl.map fun b => Value.slice (some ⟨b, 0, none⟩) V V
structure SqAt (w : World) (B ob V : Nat) (bl : List Nat) (M : List (List Int)) : Prop where
  head : w.heap[ob]? = some (.cells (rowsV bl V).toArray 39 (0, 0))
  len : bl.length = V
  row : ∀ (i b : Nat), bl[i]? = some b → ∃ r, M[i]? = some r ∧ w.heap[b]? = some (.cells (intCells r).toArray 3 (0, 0)) ∧ B ≤ b ∧ b ≠ ob
  apart : ∀ (i j b : Nat), bl[i]? = some b → bl[j]? = some b → i = j
  hob : B ≤ ob
  sq : Sq V M
theorem SqAt.keep {w w' : World} {B ob V : Nat} {bl : List Nat} {M : List (List Int)} (h : SqAt w B ob V bl M) (hk : ∀ k, k < w.heap.size → w'.heap[k]? = w.heap[k]?) : SqAt w' B ob V bl M :=
  ⟨(hk ob (lt_of_block h.head)).trans h.head, h.len, fun i b hb => by
    obtain ⟨r, h1, h2, h3⟩ := h.row i b hb
    exact ⟨r, h1, (hk b (lt_of_block h2)).trans h2, h3⟩, h.apart, h.hob, h.sq⟩
theorem SqAt.cell {w : World} {B ob V u v : Nat} {bl : List Nat} {M : List (List Int)} (h : SqAt w B ob V bl M) (hu : u < V) (hv : v < V) :
    ∃ b, bl[u]? = some b ∧ w.cell? ⟨ob, u, none⟩ = some (.slice (some ⟨b, 0, none⟩) V V) ∧ w.cell? ⟨b, v, none⟩ = some (.int .i64 (cellR M u v)) ∧ w.frozen? ⟨b, v, none⟩ = false ∧ b < w.heap.size := by
  have hub : u < bl.length := by rw [h.len]; exact hu
  obtain ⟨b, hb⟩ : ∃ b, bl[u]? = some b := ⟨_, List.getElem?_eq_getElem hub⟩
  obtain ⟨r, h1, h2, _⟩ := h.row u b hb
  have hr := h.sq.row u r h1
  refine ⟨b, hb, ?_, ?_, frozen_of_row w b v _ _ h2, lt_of_block h2⟩
  · rw [cell_of_row w ob u _ _ _ h.head]
    simp [rowsV, hb]
  · rw [cell_of_row w b v _ _ _ h2]
    unfold cellR
    rw [h1, Option.getD_some]
    simp only [List.getElem?_toArray]
    exact intCells_at r v (by rw [hr]; exact hv)
theorem SqAt.put {w : World} {B ob V u v b : Nat} {bl : List Nat} {M : List (List Int)} (h : SqAt w B ob V bl M) (hu : u < V) (hb : bl[u]? = some b) (x : Int) : SqAt (w.setCell ⟨b, v, none⟩ (.int .i64 x)) B ob V bl (setR M u v x) := by
  obtain ⟨r, h1, h2, h3, h4⟩ := h.row u b hb
  refine ⟨?_, h.len, fun i b' hb' => ?_, h.apart, h.hob, h.sq.set hu x⟩
  · rw [heapq_set, if_neg (fun e => h4 e.symm)]
    exact h.head
  · obtain ⟨r', g1, g2, g3⟩ := h.row i b' hb'
    by_cases hi : i = u
    · subst hi
      rw [hb] at hb'
      obtain rfl := Option.some.inj hb'
      rw [h1] at g1
      obtain rfl := Option.some.inj g1
      refine ⟨r.set v x, ?_, ?_, g3⟩
      · unfold setR
        rw [List.getElem?_set_self (by rw [h.sq.len]; exact hu), h1]
        rfl
      · rw [heapq_set, if_pos rfl, h2]
        simp [objSet_cells, intCells, List.map_set]
    · refine ⟨r', ?_, ?_, g3⟩
      · unfold setR
        rw [List.getElem?_set_ne (Ne.symm hi)]
        exact g1
      · rw [heapq_set, if_neg (fun (e : b' = b) => hi (h.apart i u b (by rw [← e]; exact hb') hb))]
        exact g2
end Go.Proofs.YtlbgocgocanloaaGreatDoor

/- The reference's OutBy. -/
namespace Go.Proofs.YtlbgocgocanloaaGreatDoor
open Go.RowKit
/-- the rows made one by one -/
def MadeRel (w : World) (B ob V : Nat) (gk : Nat) (u9 : Value) (wr : World) : Prop :=
  ∃ (k : Nat) (bl : List Nat), k + gk = V ∧ u9 = .int .i64 k ∧ bl.length = k ∧
    wr.heap[ob]? = some (.cells (rowsV bl V ++ List.replicate (V - k) (Value.slice none 0 0)).toArray 39 (0, 0)) ∧
    (∀ (i b : Nat), bl[i]? = some b → wr.heap[b]? = some (.cells (intCells (List.replicate V 0)).toArray 3 (0, 0)) ∧ B ≤ b ∧ b ≠ ob) ∧
    (∀ (i j b : Nat), bl[i]? = some b → bl[j]? = some b → i = j) ∧ Below B w wr
theorem zeroSq (n : Nat) : Sq n (zeroR n) :=
  ⟨by simp [zeroR], fun i r hr => by
    have := List.eq_of_mem_replicate (List.mem_of_getElem? hr)
    simp [this]⟩
theorem MadeRel.sq {w wr : World} {B ob V : Nat} {u9 : Value} (h : MadeRel w B ob V 0 u9 wr) (hob : B ≤ ob) : ∃ bl, SqAt wr B ob V bl (zeroR V) ∧ Below B w wr := by
  obtain ⟨k, bl, hk, _, hl, h1, h2, h3, h4⟩ := h
  obtain rfl : k = V := by omega
  refine ⟨bl, ⟨by simpa using h1, hl, fun i b hb => ?_, h3, hob, zeroSq k⟩, h4⟩
  obtain ⟨g1, g2, g3⟩ := h2 i b hb
  refine ⟨List.replicate k 0, ?_, g1, g2, g3⟩
  have := (List.getElem?_eq_some_iff.1 hb).1
  simp only [zeroR, List.getElem?_replicate]
  rw [if_pos (by omega)]
theorem rows_set {bl : List Nat} {k V b : Nat} (hl : bl.length = k) (hk : k < V) : (rowsV bl V ++ List.replicate (V - k) (Value.slice none 0 0)).set k (.slice (some ⟨b, 0, none⟩) V V) = rowsV (bl ++ [b]) V ++ List.replicate (V - (k + 1)) (Value.slice none 0 0) := by
  obtain ⟨m, hm⟩ : ∃ m, V - k = m + 1 := ⟨V - k - 1, by omega⟩
  rw [hm, show V - (k + 1) = m by omega, List.replicate_succ, List.set_append]
  have h1 : (rowsV bl V).length = k := by simp [rowsV, hl]
  rw [h1, if_neg (by omega), Nat.sub_self, List.set_cons_zero]
  simp [rowsV]
theorem MadeRel.step {w wr : World} {B ob V k gk : Nat} (h : MadeRel w B ob V (gk + 1) (.int .i64 k) wr) (hob : B ≤ ob) :
    MadeRel w B ob V gk (.int .i64 ((k : Int) + 1)) ((wr.setCell ⟨ob, k, none⟩ (.slice (some ⟨wr.heap.size, 0, none⟩) V V)).alloc (.cells (madeCells #[.int .i64 0] V) 3)) := by
  obtain ⟨k', bl, hk, hkk, hl, h1, h2, h3, h4⟩ := h
  have hkk' : k = k' := by
    simp only [Value.int.injEq, true_and] at hkk
    omega
  subst hkk'
  have hob2 := lt_of_block h1
  have hbl : ∀ (i b : Nat), bl[i]? = some b → b < wr.heap.size := fun i b hb => lt_of_block (h2 i b hb).1
  have hs : B ≤ wr.heap.size := by omega
  have hz : (wr.setCell ⟨ob, k, none⟩ (.slice (some ⟨wr.heap.size, 0, none⟩) V V)).heap.size = wr.heap.size := by simp [World.setCell]
  have hg : ∀ (i b : Nat), (bl ++ [wr.heap.size])[i]? = some b → bl[i]? = some b ∨ i = k ∧ b = wr.heap.size := fun i b hb => by
    rcases Nat.lt_or_ge i bl.length with hi | hi
    · rw [List.getElem?_append_left hi] at hb
      exact .inl hb
    · rw [List.getElem?_append_right hi] at hb
      have : i - bl.length = 0 := by
        have := (List.getElem?_eq_some_iff.1 hb).1
        simp at this
        omega
      rw [this] at hb
      simp at hb
      exact .inr ⟨by omega, hb.symm⟩
  refine ⟨k + 1, bl ++ [wr.heap.size], by omega, by simp, by simp [hl], ?_, fun i b hb => ?_, fun i j b hi hj => ?_, (h4.setCell hob _).alloc (by rw [hz]; exact hs) _⟩
  · rw [heapq_alloc, if_neg (by rw [hz]; omega), heapq_set, if_pos rfl, h1, ← rows_set hl (by omega)]
    simp [objSet_cells]
  · rcases hg i b hb with hb' | ⟨_, rfl⟩
    · obtain ⟨g1, g2, g3⟩ := h2 i b hb'
      have := hbl i b hb'
      refine ⟨?_, g2, g3⟩
      rw [heapq_alloc, if_neg (by rw [hz]; omega), heapq_set, if_neg g3]
      exact g1
    · refine ⟨?_, hs, by omega⟩
      rw [heapq_alloc, if_pos hz.symm]
      congr 2
      apply Array.ext'
      rw [toList_madeCells_one]
      simp [intCells]
  · rcases hg i b hi with hi' | ⟨hi', hbi⟩ <;> rcases hg j b hj with hj' | ⟨hj', hbj⟩
    · exact h3 i j b hi' hj'
    · have := hbl i b hi'
      omega
    · have := hbl j b hj'
      omega
    · omega
def Bd (b : Int) (M : List (List Int)) : Prop := ∀ u v, 0 ≤ cellR M u v ∧ cellR M u v ≤ b
theorem Bd.set {b b' : Int} {n u v : Nat} {M : List (List Int)} (h : Bd b M) (hs : Sq n M) (hu : u < n) (hv : v < n) {x : Int} (hx : 0 ≤ x) (hxb : x ≤ b') (hb : b ≤ b') : Bd b' (setR M u v x) := fun a d => by
  rw [cell_set hs hu hv]
  split
  · exact ⟨hx, hxb⟩
  · exact ⟨(h a d).1, Int.le_trans (h a d).2 hb⟩
theorem Bd.mono {b b' : Int} {M : List (List Int)} (h : Bd b M) (hb : b ≤ b') : Bd b' M := fun u v => ⟨(h u v).1, Int.le_trans (h u v).2 hb⟩
end Go.Proofs.YtlbgocgocanloaaGreatDoor

/- The reference's LeastTime. -/
namespace Go.Proofs.YtlbgocgocanloaaGreatDoor
open Go.RowKit
/-- the first of c times from t on by which all are out -/
def leastGo (v : Nat → Int) (s : Int) : Nat → Nat → Option Nat
  | 0, _ => none
  | c + 1, t => if v t = s then some t else leastGo v s c (t + 1)
end Go.Proofs.YtlbgocgocanloaaGreatDoor

/- The code's LeastTime in all cases. -/
namespace Go.Proofs.YtlbgocgocanloaaGreatDoor
open Go.RowKit
set_option maxRecDepth 100000 in
set_option maxHeartbeats 8000000 in
theorem LeastTime_late (w : World) (B : Nat) (Ap Aw : Option Addr) (np cp nw cw : Nat) (pp : List Int) (ws : List Ev) (hl : pp.length = np) (hlw : ws.length = nw) (hp : Rd w B Ap (intCells pp)) (hw : Rd w B Aw (evCells ws)) (hBw : B ≤ w.heap.size)
    (h0 : (roomsM pp ws).2 = 0) (most : Nat) (hm : most ≤ 20) (hno : ∀ t, t ≤ most → ∃ o, outIs pp ws t o ∧ o ≠ sumL pp) :
    Calls Tryz.prog 27 #[.agg #[.slice Ap np cp, .slice Aw nw cw], .int .i64 most] w (LeastPost w 0 25) := by
  have ok := roomsOk_of h0
  have OK := Lib.hid ok
  have HL := Lib.hid hl
  have HLW := Lib.hid hlw
  have r1 : 1 ≤ np := by rw [← hl]; exact ok.some_
  have r2 : np ≤ 6 := by rw [← hl]; exact ok.few
  have r3 : nw ≤ 16 := by rw [← hlw]; exact ok.fewW
  have hb0 : Below w.heap.size w (w.alloc (.cells #[.slice Ap np cp, .slice Aw nw cw] 65)) := (Below.refl _ _).alloc (Nat.le_refl _) _
  have hp0 := hp.below (hb0.mono hBw)
  have hw0 := hw.below (hb0.mono hBw)
  have R := roomsErr_any Ap Aw np cp nw cw (w.alloc (.cells #[.slice Ap np cp, .slice Aw nw cw] 65)) B pp ws hl hlw hp0 hw0 (by simp; omega)
  unfold ErrVal at R
  rw [h0] at R
  have b0 : (w.alloc (.cells #[.slice Ap np cp, .slice Aw nw cw] 65)).heap[w.heap.size]? = some (.cells #[.slice Ap np cp, .slice Aw nw cw] 65 (0, 0)) := by rw [heapq_alloc, if_pos rfl]
  have Tk := fun W : World => ticksErr_any (most : Int) W
  have ht : unlessE (withinB (most : Int) 0 20) 2 = 0 := by
    have : withinB (most : Int) 0 20 = true := by simp [withinB]; omega
    rw [this]
    rfl
  simp only [ht] at Tk
  have hs0 : w.heap.size + 1 ≤ (w.alloc (.cells #[.slice Ap np cp, .slice Aw nw cw] 65)).heap.size := by simp
  have HNO := Lib.hid hno
  have HP0 := Lib.hid hp0
  have HW0 := Lib.hid hw0
  have HB0 := Lib.hid hb0
  clear ok hl hlw hp hw h0 hno ht hp0 hw0 hb0
  go_enter Tryz.func27, Tryz.ntmps27
  go_upto_region 1 with (fail)
  generalize w.alloc (.cells #[.slice Ap np cp, .slice Aw nw cw] 65) = w0 at *
  have a0 := cell_of_row w0 w.heap.size 0 _ _ _ b0
  have a1 := cell_of_row w0 w.heap.size 1 _ _ _ b0
  simp at a0 a1
  generalize hx : w.heap.size = x at *
  have HX := Lib.hid hx
  clear hx b0
  go_upto_region 2 with (first | (go_at_call 70; refine R.mono ?_; rintro e w1 ⟨rfl, hb1⟩; have a0' := kept hb1 a0; have a1' := kept hb1 a1) | (go_at_call 71; refine (Tk _).mono ?_; rintro e w' ⟨rfl, rfl⟩) | (go_at_call 61; refine (first00 _).mono ?_; rintro e w' ⟨rfl, rfl⟩))
  have c0 := cell_alloc_old (.cells #[.int .i64 0, .int .i64 0] 29) a0'
  have c1 := cell_alloc_old (.cells #[.int .i64 0, .int .i64 0] 29) a1'
  have hb2 : Below x w (w1.alloc (.cells #[.int .i64 0, .int .i64 0] 29)) := (HB0.out.trans (hb1.mono (by omega))).alloc (by have := hb1.size; omega) _
  have hp2 := (HP0.out.below (hb1.mono (by omega))).below (((Below.refl _ _).alloc (Nat.le_refl _) (.cells #[.int .i64 0, .int .i64 0] 29)).mono (by have := hb1.size; omega))
  have hw2 := (HW0.out.below (hb1.mono (by omega))).below (((Below.refl _ _).alloc (Nat.le_refl _) (.cells #[.int .i64 0, .int .i64 0] 29)).mono (by have := hb1.size; omega))
  have hs2 : B ≤ (w1.alloc (.cells #[.int .i64 0, .int .i64 0] 29)).heap.size := by have := hb1.size; simp; omega
  have hs3 : x + 1 ≤ (w1.alloc (.cells #[.int .i64 0, .int .i64 0] 29)).heap.size := by have := hb1.size; simp; omega
  have HB2 := Lib.hid hb2
  have HP2 := Lib.hid hp2
  have HW2 := Lib.hid hw2
  clear a0 a1 a0' a1' hb1 hb2 hp2 hw2 R Tk HP0 HW0 HB0
  generalize w1.alloc (.cells #[.int .i64 0, .int .i64 0] 29) = w2 at *
  go_wp2
  go_loop [7, 23] (fun u7 u23 => SumRel pp np u7 u23) (fun _ u23 => np - (intOf u23).toNat)
  case atStart => exact ⟨0, 0, Nat.zero_le _, rfl, rfl, by simp, by omega, by omega⟩
  case round =>
    obtain ⟨k, acc, hk, rfl, rfl, hacc, g0, g1⟩ := hrel
    by_cases hlt : k < np
    · have hpk : k < pp.length := by rw [HL.out]; exact hlt
      obtain ⟨bp, off, rfl, hbB, hc⟩ := HP2.out.at_ (k := k) (u := .int .i64 (pp[k]?.getD 0)) (intCells_at pp k hpk)
      have hq := OK.out.people (pp[k]?.getD 0) (by rw [List.getElem?_eq_getElem hpk, Option.getD_some]; exact List.getElem_mem hpk)
      have hd := drop_at pp 0 k hpk
      rw [hd] at hacc
      generalize pp[k]?.getD 0 = q at *
      obtain ⟨q0, q1⟩ := hq
      have hac2 : acc + q + sumL (pp.drop (k + 1)) = sumL pp := by simp only [sumL] at hacc; omega
      have HAC2 := Lib.hid hac2
      clear hacc hac2 hd hpk
      go_wp2
      go_round
      case rel => exact ⟨k + 1, acc + q, by omega, by go_num, rfl, HAC2.out, by omega, by omega⟩
      case measure => simp [intOf]; omega
    · obtain rfl : k = np := by omega
      have hd : pp.drop k = [] := by rw [List.drop_eq_nil_iff]; rw [HL.out]; exact Nat.le_refl _
      rw [hd] at hacc
      simp only [sumL, Int.add_zero] at hacc
      have HACC := Lib.hid hacc
      clear hacc hd
      go_wp2
      go_loopw [33] (fun u33 wr => TimeRel w2 (most + 1) u33 wr) (fun u33 _ => most + 1 - (intOf u33).toNat)
      case atStart => exact ⟨0, Nat.zero_le _, rfl, Below.refl _ _⟩
      case round =>
        obtain ⟨t, htn, rfl, hb⟩ := hrel
        have c0' := kept hb c0
        have c1' := kept hb c1
        have hpr := HP2.out.below (hb.mono hs2)
        have hwr := HW2.out.below (hb.mono hs2)
        have hsz := hb.size
        have HB := Lib.hid hb
        clear hb c0 c1
        by_cases htn2 : t = most + 1
        · have hlt : ¬ (t : Int) < (most : Int) + 1 := by omega
          clear hpr hwr htn2 htn
          go_wp2
          go_ret2
          refine ⟨rfl, ?_⟩
          rw [HX.out]
          exact HB2.out.trans (HB.out.mono (by omega))
        · have hlt : (t : Int) < (most : Int) + 1 := by omega
          obtain ⟨o, ⟨kk, ff, F, hrun, ho⟩, hne⟩ := HNO.out t (by omega)
          have C := flowOf_any wr B Ap Aw k cp nw cw pp ws HL.out HLW.out hpr hwr (by omega) OK.out t (by omega) kk ff F hrun
          have hoq : (F.o == acc) = false := beq_eq_false_iff_ne.2 (by rw [ho, HACC.out]; exact hne)
          clear hrun ho hpr hwr hne
          go_upto_region 13 with (fail)
          go_wp2_with (go_at_call 72; refine C.mono ?_; rintro e w3 ⟨g, rfl, hfa, hb3⟩; have g6 := hfa.out; clear hfa)
          go_roundw
          case rel => exact ⟨t + 1, by omega, by go_num, HB.out.trans (hb3.mono hsz)⟩
          case measure => simp [intOf]; omega
theorem leastGo_spec {v : Nat → Int} {s : Int} : ∀ (c t : Nat),
    (∀ n, leastGo v s c t = some n → t ≤ n ∧ n < t + c ∧ v n = s ∧ ∀ k, t ≤ k → k < n → v k ≠ s) ∧ (leastGo v s c t = none → ∀ k, t ≤ k → k < t + c → v k ≠ s)
  | 0, t => ⟨fun n h => (by cases h), fun _ k h1 h2 => (by omega)⟩
  | c + 1, t => by
    obtain ⟨i1, i2⟩ := leastGo_spec (v := v) (s := s) c (t + 1)
    unfold leastGo
    by_cases h : v t = s
    · rw [if_pos h]
      refine ⟨fun n hn => ?_, fun hn => by cases hn⟩
      obtain rfl := Option.some.inj hn
      exact ⟨Nat.le_refl _, by omega, h, fun k h1 h2 => by omega⟩
    · rw [if_neg h]
      refine ⟨fun n hn => ?_, fun hn k h1 h2 => ?_⟩
      · obtain ⟨a, b, c', d⟩ := i1 n hn
        refine ⟨by omega, by omega, c', fun k h1 h2 => ?_⟩
        rcases Nat.lt_or_ge t k with h3 | h3
        · exact d k h3 h2
        · obtain rfl : k = t := by omega
          exact h
      · rcases Nat.lt_or_ge t k with h3 | h3
        · exact i2 hn k h3 (by omega)
        · obtain rfl : k = t := by omega
          exact h
/-- the least time and the error of the code -/
def leastN : Option Nat → Int
  | some n => n
  | none => 0
def leastE : Option Nat → Int
  | some _ => 0
  | none => 25
theorem LeastTime_any (w : World) (B : Nat) (Ap Aw : Option Addr) (np cp nw cw : Nat) (pp : List Int) (ws : List Ev) (hl : pp.length = np) (hlw : ws.length = nw) (hp : Rd w B Ap (intCells pp)) (hw : Rd w B Aw (evCells ws)) (hBw : B ≤ w.heap.size)
    (h0 : (roomsM pp ws).2 = 0) (most : Nat) (hm : most ≤ 20) (v : Nat → Int) (hv : ∀ t, t ≤ most → outIs pp ws t (v t)) (r : Option Nat) (hr : leastGo v (sumL pp) (most + 1) 0 = r) :
    Calls Tryz.prog 27 #[.agg #[.slice Ap np cp, .slice Aw nw cw], .int .i64 most] w (LeastPost w (leastN r) (leastE r)) := by
  obtain ⟨s1, s2⟩ := leastGo_spec (v := v) (s := sumL pp) (most + 1) 0
  cases r with
  | some n =>
    obtain ⟨_, a, b, c⟩ := s1 n hr
    exact LeastTime_yes w B Ap Aw np cp nw cw pp ws hl hlw hp hw hBw h0 most hm n (by omega) (by rw [← b]; exact hv n (by omega)) (fun t ht => ⟨v t, hv t (by omega), c t (Nat.zero_le _) ht⟩)
  | none => exact LeastTime_late w B Ap Aw np cp nw cw pp ws hl hlw hp hw hBw h0 most hm (fun t ht => ⟨v t, hv t ht, s2 hr t (Nat.zero_le _) (by omega)⟩)
end Go.Proofs.YtlbgocgocanloaaGreatDoor
