/- Rooms and ways: copies, sums, ticks. Rooms copied; how many are out. How many are out by some ticks; the least time that is too late; the errors. The reference's CheckRooms. -/
import Derived.Test.YtmcjnfghlpnghaaDoorX1
import Derived.Test.YtmcjnfghlpnghaaDoorC10
import Derived.Test.YtmcjnfghlpnghaaDoorD1
import Derived.Test.YtmcjnfghlpnghaaDoorR4
import Derived.Test.YtmcjnfghlpnghaaDoorM1
import Derived.Test.YtmcjnfghlpnghaaDoorS1
import Derived.Test.YtmcjnfghlpnghaaDoorY1
namespace Go.Proofs.YtmcjnfghlpnghaaDoor
open Go.RowKit

def ticksE (n : Int) : Int := unlessE (withinB n 0 20) 2

theorem TicksErr_any (n : Int) (w : World) : Calls Tryd.prog 33 #[.int .i64 n] w fun e w' => e = .returned (.int .i64 (ticksE n)) ∧ w = w' := by
  cases hb : withinB n 0 20
  all_goals
    have HB := Lib.hid hb
    go_enter Tryd.func33, Tryd.ntmps33
    go_wp2_with (go_at_call 49; refine (Within_val _ _ _ _ hb _).mono ?_; rintro e w' ⟨rfl, rfl⟩)
    go_ret
    exact ⟨by simp [ticksE, unlessE, HB.out], rfl⟩

theorem brief_any (n : Int) (b : Bool) (hb : (decide (n ≤ 6) || decide (20 < n)) = b) (w : World) : Calls Tryd.prog 27 #[.int .i64 n] w fun e w' => e = .returned (.bool b) ∧ w = w' := by
  by_cases h1 : n ≤ 6
  · have HV : Hid (b = true) := by rw [Hid, ← hb]; simp [h1]
    clear hb
    go_enter Tryd.func27, Tryd.ntmps27
    go_wp2
    go_ret
    exact ⟨by rw [HV.out]; rfl, rfl⟩
  · by_cases h2 : 20 < n
    · have HV : Hid (b = true) := by rw [Hid, ← hb]; simp [h2]
      clear hb
      go_enter Tryd.func27, Tryd.ntmps27
      go_wp2
      go_ret
      exact ⟨by rw [HV.out]; rfl, rfl⟩
    · have HV : Hid (b = false) := by rw [Hid, ← hb]; simp [h1, h2]
      clear hb
      go_enter Tryd.func27, Tryd.ntmps27
      go_wp2
      go_ret
      exact ⟨by rw [HV.out]; rfl, rfl⟩

def roomsB (np nw : Nat) : Bool := (decide (np ≤ 4) || (decide (6 < np) && decide (np ≤ 8))) && (decide (nw ≤ 8) || (decide (16 < nw) && decide (nw ≤ 18)))

theorem rooms_any (w : World) (Ap Aw : Option Addr) (np cp nw cw : Nat) (b : Bool) (hb : roomsB np nw = b) :
    Calls Tryd.prog 26 #[.agg #[.slice Ap np cp, .slice Aw nw cw]] w fun e w' => e = .returned (.bool b) ∧ Below w.heap.size w w' := by
  have hb0 : Below w.heap.size w (w.alloc (.cells #[.slice Ap np cp, .slice Aw nw cw] 42)) := (Below.refl _ _).alloc (Nat.le_refl _) _
  have HV : Hid (((decide (np ≤ 4) || (decide (6 < np) && decide (np ≤ 8))) && (decide (nw ≤ 8) || (decide (16 < nw) && decide (nw ≤ 18)))) = b) := hb
  clear hb
  have p1 : np ≤ 4 ∨ (¬ np ≤ 4 ∧ ¬ 6 < np) ∨ (¬ np ≤ 4 ∧ 6 < np ∧ np ≤ 8) ∨ (¬ np ≤ 4 ∧ 6 < np ∧ ¬ np ≤ 8) := by omega
  have p2 : nw ≤ 8 ∨ (¬ nw ≤ 8 ∧ ¬ 16 < nw) ∨ (¬ nw ≤ 8 ∧ 16 < nw ∧ nw ≤ 18) ∨ (¬ nw ≤ 8 ∧ 16 < nw ∧ ¬ nw ≤ 18) := by omega
  rcases p1 with h1 | ⟨h1, h2⟩ | ⟨h1, h2, h3⟩ | ⟨h1, h2, h3⟩
  all_goals rcases p2 with h4 | ⟨h4, h5⟩ | ⟨h4, h5, h6⟩ | ⟨h4, h5, h6⟩
  all_goals
    have i1 : (np : Int) ≤ 4 ∨ ¬ (np : Int) ≤ 4 := by omega
    have i2 : (6 : Int) < (np : Int) ∨ ¬ (6 : Int) < (np : Int) := by omega
    have i3 : (np : Int) ≤ 8 ∨ ¬ (np : Int) ≤ 8 := by omega
    have i4 : (nw : Int) ≤ 8 ∨ ¬ (nw : Int) ≤ 8 := by omega
    have i5 : (16 : Int) < (nw : Int) ∨ ¬ (16 : Int) < (nw : Int) := by omega
    have i6 : (nw : Int) ≤ 18 ∨ ¬ (nw : Int) ≤ 18 := by omega
    rcases i1 with i1 | i1 <;> first | omega | skip
    all_goals (rcases i2 with i2 | i2 <;> first | omega | skip)
    all_goals (rcases i3 with i3 | i3 <;> first | omega | skip)
    all_goals (rcases i4 with i4 | i4 <;> first | omega | skip)
    all_goals (rcases i5 with i5 | i5 <;> first | omega | skip)
    all_goals (rcases i6 with i6 | i6 <;> first | omega | skip)
    all_goals
      have HF : Hid (b = ((decide (np ≤ 4) || (decide (6 < np) && decide (np ≤ 8))) && (decide (nw ≤ 8) || (decide (16 < nw) && decide (nw ≤ 18))))) := HV.out.symm
      first
        | (have HT : Hid (b = true) := by rw [Hid, HF.out]; simp; omega
           clear HF HV
           go_enter Tryd.func26, Tryd.ntmps26
           go_wp2
           go_ret
           exact ⟨by rw [HT.out]; rfl, hb0⟩)
        | (have HT : Hid (b = false) := by rw [Hid, HF.out]; simp; omega
           clear HF HV
           go_enter Tryd.func26, Tryd.ntmps26
           go_wp2
           go_ret
           exact ⟨by rw [HT.out]; rfl, hb0⟩)

theorem intCells_len (l : List Int) : (intCells l).length = l.length := by simp [intCells]
theorem intCells_one (l : List Int) : ∀ u ∈ intCells l, u.oneCell' = true := by
  intro u hu
  simp only [intCells, List.mem_map] at hu
  obtain ⟨n, _, rfl⟩ := hu
  rfl

def IntsPost (w : World) (l : List Int) (n : Nat) (e : Ending) (w' : World) : Prop :=
  ∃ A c, e = .returned (.slice A n c) ∧ Rd w' w'.heap.size A (intCells l) ∧ Below w.heap.size w w'

set_option maxHeartbeats 1000000 in
theorem CopyInts_any (w : World) (B : Nat) (A : Option Addr) (n c : Nat) (l : List Int) (hl : l.length = n) (hn : n ≤ 1000000) (h : Rd w B A (intCells l)) (hB : B ≤ w.heap.size) :
    Calls Tryd.prog 54 #[.slice A n c] w (IntsPost w l n) := by
  obtain ⟨i1, hi1, hy0, hy1, hy2⟩ := info_parts info3
  have HL := Lib.hid hl
  have h' := h.below (((Below.refl _ _).alloc (Nat.le_refl _) (.cells #[] 3) : Below w.heap.size w (w.alloc (.cells #[] 3))).mono hB)
  have hb0 : Below w.heap.size w (w.alloc (.cells #[] 3)) := (Below.refl _ _).alloc (Nat.le_refl _) _
  clear hl
  go_enter Tryd.func54, Tryd.ntmps54
  go_wp2_with (at_builtin; refine stp ?_)
  unfold Stp
  refine wpList_append_copy _ rfl _ _ 39 rfl w.heap.size 3 i1 _ 1 8 Tryd.underlying39 hi1 hy0 hy1 hy2 rfl (by omega) w.heap.size rfl (by rw [heapq_alloc, if_pos rfl]) (Nat.le_refl _) B A n c (intCells l) rfl (by rw [intCells_len, HL.out, Nat.mul_one]) h' (intCells_one l) (by simp only [maxLen]; omega) (by omega) (by simp) ?_
  intro g cap w1 hown hgrow _
  have hb1 : Below w.heap.size w w1 := hb0.grown hgrow (by simp) (fun k hk => by rw [← Option.some.inj hk]; exact Nat.le_refl _)
  have HR := Lib.hid (Rd_of_own hown)
  have HB := Lib.hid hb1
  clear hown hgrow hb0 hb1 h h'
  go_wp2
  go_ret
  exact ⟨_, _, rfl, HR.out, HB.out⟩

set_option maxHeartbeats 1000000 in
theorem People_any (w : World) (B : Nat) (Ap Aw : Option Addr) (np cp nw cw : Nat) (pp : List Int) (hl : pp.length = np) (hp : Rd w B Ap (intCells pp)) (hB : B ≤ w.heap.size) (hn : np ≤ 6) (hx : ∀ x ∈ pp, 0 ≤ x ∧ x ≤ 10000) :
    Calls Tryd.prog 60 #[.agg #[.slice Ap np cp, .slice Aw nw cw]] w fun e w' => e = .returned (.int .i64 (sumL pp)) ∧ Below w.heap.size w w' := by
  have hb0 : Below w.heap.size w (w.alloc (.cells #[.slice Ap np cp, .slice Aw nw cw] 42)) := (Below.refl _ _).alloc (Nat.le_refl _) _
  have hp0 := hp.below (hb0.mono hB)
  have b0 : (w.alloc (.cells #[.slice Ap np cp, .slice Aw nw cw] 42)).cell? ⟨w.heap.size, 0, none⟩ = some (.slice Ap np cp) := by simp
  have HL := Lib.hid hl
  have HX := Lib.hid hx
  clear hl hp hx
  go_enter Tryd.func60, Tryd.ntmps60
  go_wp2
  generalize w.alloc (.cells #[.slice Ap np cp, .slice Aw nw cw] 42) = w0 at *
  go_loop [3, 4] (fun u3 u4 => SumRel pp np u3 u4) (fun _ u4 => np - (intOf u4).toNat)
  case atStart => exact ⟨0, 0, Nat.zero_le _, rfl, rfl, by simp, by omega, by omega⟩
  case round =>
    obtain ⟨k, acc, hk, rfl, rfl, hacc, g0, g1⟩ := hrel
    by_cases hlt : k < np
    · have hpk : k < pp.length := by rw [HL.out]; exact hlt
      obtain ⟨bp, off, rfl, hbB, hc⟩ := hp0.at_ (k := k) (u := .int .i64 (pp[k]?.getD 0)) (intCells_at pp k hpk)
      have hq := HX.out (pp[k]?.getD 0) (by rw [List.getElem?_eq_getElem hpk, Option.getD_some]; exact List.getElem_mem hpk)
      have hd := drop_at pp 0 k hpk
      rw [hd] at hacc
      generalize pp[k]?.getD 0 = q at *
      obtain ⟨q0, q1⟩ := hq
      have hac2 : acc + q + sumL (pp.drop (k + 1)) = sumL pp := by simp only [sumL] at hacc; omega
      have HAC2 := Lib.hid hac2
      clear hacc hac2 hd hpk
      go_wp2
      go_round
      case rel => exact ⟨k + 1, acc + q, by omega, by go_num, rfl, HAC2.out, by omega, by omega⟩
      case measure => simp [intOf]; omega
    · obtain rfl : k = np := by omega
      have hd : pp.drop k = [] := by rw [List.drop_eq_nil_iff]; rw [HL.out]; exact Nat.le_refl _
      rw [hd] at hacc
      simp only [sumL, Int.add_zero] at hacc
      have HACC := Lib.hid hacc
      clear hacc hd
      go_wp2
      go_ret
      exact ⟨by rw [← HACC.out]; rfl, hb0⟩
end Go.Proofs.YtmcjnfghlpnghaaDoor

namespace Go.Proofs.YtmcjnfghlpnghaaDoor
open Go.RowKit

def RoomsCopied (w : World) (pp : List Int) (ws : List Ev) (np nw : Nat) (e : Ending) (w' : World) : Prop :=
  ∃ A1 c1 A2 c2, e = .returned (.agg #[.slice A1 np c1, .slice A2 nw c2]) ∧ Rd w' w'.heap.size A1 (intCells pp) ∧ Rd w' w'.heap.size A2 (evCells ws) ∧ Below w.heap.size w w'

theorem info92 : (Tryd.prog.info? 92).map (fun i => (i.zero, i.size, i.bytes)) = some (some (.agg #[.int .i64 0, .int .i64 0, .int .i64 0]), 3, 24) := by kernel_rfl

/-- what is read elsewhere while a block of another kind is written -/
theorem rd_set2 {W : World} {x B : Nat} {A : Option Addr} {xs : List Value} {v0 v1 : Value} (h : Rd W B A xs ∧ B ≤ W.heap.size ∧ ∀ (k : Nat) (u : Value), xs[k]? = some u → ∀ b off, A = some ⟨b, off, none⟩ → b ≠ x) :
    Rd ((W.setCell ⟨x, 0, none⟩ v0).setCell ⟨x, 1, none⟩ v1) ((W.setCell ⟨x, 0, none⟩ v0).setCell ⟨x, 1, none⟩ v1).heap.size A xs := fun k u hk => by
  obtain ⟨b, off, hA, hb, hc⟩ := h.1 k u hk
  have hne := h.2.2 k u hk b off hA
  have hB := h.2.1
  refine ⟨b, off, hA, by simp; omega, ?_⟩
  rw [World.cell?_setCell_other _ _ _ _ (fun he => hne (by simpa using (congrArg Addr.block he).symm)), World.cell?_setCell_other _ _ _ _ (fun he => hne (by simpa using (congrArg Addr.block he).symm))]
  exact hc

theorem rd_kept {w w' : World} {g0 B : Nat} {A : Option Addr} {xs : List Value} (h : Rd w B A xs) (hg : w.grownBy w' (some g0)) (hg0 : ∀ (k : Nat) (u : Value), xs[k]? = some u → ∀ b off, A = some ⟨b, off, none⟩ → b ≠ g0) : Rd w' B A xs := fun k u hk => by
  obtain ⟨b, off, hA, hb, hc⟩ := h k u hk
  refine ⟨b, off, hA, hb, keepS hg hc ?_⟩
  intro he
  exact hg0 k u hk b off hA (Option.some.inj he)

/-- ints lie in no block of structs -/
theorem rd_ne {w : World} {B g t : Nat} {A : Option Addr} {l : List Int} {cs : Array Value} (h : Rd w B A (intCells l)) (hg : w.heap[g]? = some (.cells cs t (0, 0))) (hcs : ∀ (i : Nat) (n : Int), cs[i]? ≠ some (Value.int .i64 n)) : ∀ (k : Nat) (u : Value), (intCells l)[k]? = some u → ∀ b off, A = some ⟨b, off, none⟩ → b ≠ g := by
  intro k u hk b off hA he
  obtain ⟨b', off', hA', _, hc⟩ := h k u hk
  rw [hA] at hA'
  simp only [Option.some.injEq, Addr.mk.injEq, and_true] at hA'
  obtain ⟨rfl, rfl⟩ := hA'
  subst he
  rw [cell_of_row w b _ _ _ _ hg] at hc
  obtain ⟨m, _, rfl⟩ : ∃ m, m ∈ l ∧ Value.int .i64 m = u := by
    have := List.mem_of_getElem? hk
    simpa [intCells] using this
  exact hcs _ _ hc

set_option maxRecDepth 100000 in
set_option maxHeartbeats 4000000 in
theorem CopyRooms_any (w : World) (B : Nat) (Ap Aw : Option Addr) (np cp nw cw : Nat) (pp : List Int) (ws : List Ev) (hl : pp.length = np) (hlw : ws.length = nw) (hn : np ≤ 1000000) (hm : nw ≤ 1000000) (hp : Rd w B Ap (intCells pp)) (hw : Rd w B Aw (evCells ws)) (hB : B ≤ w.heap.size) :
    Calls Tryd.prog 29 #[.agg #[.slice Ap np cp, .slice Aw nw cw]] w (RoomsCopied w pp ws np nw) := by
  obtain ⟨i1, hi1, hy0, hy1, hy2⟩ := info_parts info92
  have hb0 : Below w.heap.size w ((w.alloc (.cells #[.slice Ap np cp, .slice Aw nw cw] 42)).alloc (.cells #[.slice none 0 0, .slice none 0 0] 42)) := ((Below.refl _ _).alloc (Nat.le_refl _) _).alloc (by simp) _
  have k0 : ((w.alloc (.cells #[.slice Ap np cp, .slice Aw nw cw] 42)).alloc (.cells #[.slice none 0 0, .slice none 0 0] 42)).heap[w.heap.size]? = some (.cells #[.slice Ap np cp, .slice Aw nw cw] 42 (0, 0)) := by
    rw [heapq_alloc, if_neg (by simp), heapq_alloc, if_pos rfl]
  have k1 : ((w.alloc (.cells #[.slice Ap np cp, .slice Aw nw cw] 42)).alloc (.cells #[.slice none 0 0, .slice none 0 0] 42)).heap[w.heap.size + 1]? = some (.cells #[.slice none 0 0, .slice none 0 0] 42 (0, 0)) := by
    rw [heapq_alloc, if_pos (by simp)]
  have hp0 := hp.below (hb0.mono hB)
  have hw0 := hw.below (hb0.mono hB)
  have hs1 : w.heap.size ≤ ((w.alloc (.cells #[.slice Ap np cp, .slice Aw nw cw] 42)).alloc (.cells #[.slice none 0 0, .slice none 0 0] 42)).heap.size := by simp; omega
  have hx1 : w.heap.size + 1 < ((w.alloc (.cells #[.slice Ap np cp, .slice Aw nw cw] 42)).alloc (.cells #[.slice none 0 0, .slice none 0 0] 42)).heap.size := by simp
  have HB := Lib.hid hb0
  have HL := Lib.hid hl
  have HLW := Lib.hid hlw
  have K1 := Lib.hid k1
  have a0 : ((w.alloc (.cells #[.slice Ap np cp, .slice Aw nw cw] 42)).alloc (.cells #[.slice none 0 0, .slice none 0 0] 42)).cell? ⟨w.heap.size, 0, none⟩ = some (.slice Ap np cp) := (cell_of_row ((w.alloc (.cells #[.slice Ap np cp, .slice Aw nw cw] 42)).alloc (.cells #[.slice none 0 0, .slice none 0 0] 42)) w.heap.size 0 _ _ _ k0).trans rfl
  have a1 : ((w.alloc (.cells #[.slice Ap np cp, .slice Aw nw cw] 42)).alloc (.cells #[.slice none 0 0, .slice none 0 0] 42)).cell? ⟨w.heap.size, 1, none⟩ = some (.slice Aw nw cw) := (cell_of_row ((w.alloc (.cells #[.slice Ap np cp, .slice Aw nw cw] 42)).alloc (.cells #[.slice none 0 0, .slice none 0 0] 42)) w.heap.size 1 _ _ _ k0).trans rfl
  have HX := Lib.hid hx1
  clear hl hlw hp hw hb0 k0 k1 hx1
  go_enter Tryd.func29, Tryd.ntmps29
  go_upto_region 1 with (fail)
  generalize ((w.alloc (.cells #[.slice Ap np cp, .slice Aw nw cw] 42)).alloc (.cells #[.slice none 0 0, .slice none 0 0] 42)) = W0 at *
  have hBW : B ≤ W0.heap.size := Nat.le_trans hB hs1
  generalize hx : w.heap.size = x at *
  have HXX := Lib.hid hx
  clear hx
  have x0 := fun y : Xt W0 => y.cell a0
  have x1 := fun y : Xt W0 => y.cell a1
  refine wp_region_eager [7, 8] (fun w' => ∃ y : Xt W0, w' = y.1) (by kernel_rfl) ⟨⟨W0.drew, (Below.refl _ _).drew⟩, rfl⟩ ?_
  refine wpE_reads [0, 1, 4, 5] 5 rfl (by kernel_rfl) ?_
  simp only [opsAt_nil, opsAt_cons, consOpt_some, List.getElem?_toArray, List.getElem?_cons_zero, List.getElem?_cons_succ]
  repeat (go_big_quiet_step (fail))
  refine wpQuiet_nil ?_
  have hbd : Below W0.heap.size W0 W0.drew := (Below.refl _ _).drew
  show wpE _ _ _ _ _ _ _ _ _ W0.drew
  generalize W0.drew = wd at *
  clear x0 x1 a0 a1
  refine wpE_two (i := 2) (k := 3) rfl (by kernel_rfl) rfl rfl ?_ ?_
  · unfold wpMid
    simp only [opsAt_nil, opsAt_cons, consOpt_some, List.getElem?_toArray, List.getElem?_cons_zero, List.getElem?_cons_succ]
    go_wp2_with (go_at_call 54; refine (CopyInts_any wd B Ap np cp pp HL.out hn (hp0.below (hbd.mono hBW)) (Nat.le_trans hBW hbd.size)).mono ?_; rintro e w2 ⟨AR, cR, rfl, hR, hb2⟩)
    have hb02 := hbd.trans (hb2.mono hbd.size)
    refine onlyNormal_mk ⟨⟨⟨_, hb02⟩, rfl⟩, ?_⟩
    refine wpE_one (i := 3) rfl (by kernel_rfl) rfl ?_
    unfold wpMid
    simp only [opsAt_nil, opsAt_cons, consOpt_some, List.getElem?_toArray, List.getElem?_cons_zero, List.getElem?_cons_succ]
    go_wp2
    have hb03 : Below W0.heap.size W0 (w2.alloc (.cells #[] 92)) := hb02.alloc hb02.size _
    have gq : (w2.alloc (.cells #[] 92)).heap[w2.heap.size]? = some (.cells #[] 92 (0, 0)) := by rw [heapq_alloc, if_pos rfl]
    have hR3 := (hR.below ((Below.refl _ _).alloc (Nat.le_refl _) (.cells #[] 92))).mono (show w2.heap.size ≤ (w2.alloc (.cells #[] 92)).heap.size by simp)
    have hg : W0.heap.size ≤ w2.heap.size := hb02.size
    clear hR
    generalize w2.alloc (.cells #[] 92) = w3 at *
    generalize w2.heap.size = g at *
    refine onlyNormal_mk ⟨⟨⟨_, hb03⟩, rfl⟩, ?_⟩
    refine wpE_one (i := 6) rfl (by kernel_rfl) rfl ?_
    unfold wpMid
    simp only [opsAt_nil, opsAt_cons, consOpt_some, List.getElem?_toArray, List.getElem?_cons_zero, List.getElem?_cons_succ]
    have hrd := hw0.below (hb03.mono hBW)
    have hgl := lt_of_block gq
    have n3 := rd_ne hR3 gq (fun i n h => by simp at h)
    refine wpList_append_copy w3 rfl _ _ 40 rfl g 92 i1 _ 3 24 Tryd.underlying40 hi1 hy0 hy1 hy2 rfl (by omega) g rfl gq (Nat.le_refl _) B Aw nw cw (evCells ws) rfl (by rw [evCells_len, HLW.out]) hrd (evCells_one ws) (by simp only [maxLen]; omega) (by omega) (Nat.le_of_lt hgl) ?_
    intro G cG w4 hown hgrow _
    have hb4 : Below W0.heap.size W0 w4 := hb03.grown hgrow hb03.size (fun k hk => by rw [← Option.some.inj hk]; exact hg)
    have hG := ownBlk hown rfl
    have hR4 := rd_kept hR3 hgrow n3
    have hk4 := (hb4.block (x + 1) HX.out).trans K1.out
    have n4 := rd_ne hR4 hk4 (fun i n h => by rcases i with _ | _ | i <;> simp at h)
    have s4 := hgrow.size
    have RPP : Rd w4 w3.heap.size AR (intCells pp) ∧ w3.heap.size ≤ w4.heap.size ∧ _ := ⟨hR4, s4, n4⟩
    have RWW : Rd w4 w4.heap.size (some ⟨G, 0, none⟩) (evCells ws) ∧ w4.heap.size ≤ w4.heap.size ∧ ∀ (k : Nat) (u : Value), (evCells ws)[k]? = some u → ∀ b off, some (⟨G, 0, none⟩ : Addr) = some ⟨b, off, none⟩ → b ≠ x + 1 :=
      ⟨Rd_of_own hown, Nat.le_refl _, fun k u _ b off he => by
        simp only [Option.some.injEq, Addr.mk.injEq, and_true] at he
        have := HX.out
        have := hG.1
        omega⟩
    clear hrd n3 hown hgrow hR4 hk4 n4
    refine onlyNormal_mk ⟨⟨⟨_, hb4⟩, rfl⟩, ?_⟩
    refine wpE_tail rfl (by kernel_rfl) ?_
    simp only [opsAt_nil, opsAt_cons, consOpt_some, List.getElem?_toArray, List.getElem?_cons_zero, List.getElem?_cons_succ]
    have hk := (hb4.block (x + 1) HX.out).trans K1.out
    have t0 := cell_of_row w4 (x + 1) 0 _ _ _ hk
    have t1 := cell_of_row w4 (x + 1) 1 _ _ _ hk
    simp at t0 t1
    have q0 := frozen_of_row w4 (x + 1) 0 _ _ hk
    have q1 := frozen_of_row w4 (x + 1) 1 _ _ hk
    have RP := Lib.hid RPP
    have RW := Lib.hid RWW
    have HBE := Lib.hid (HB.out.trans (hb4.mono hs1))
    clear hk
    go_wp2
    refine onlyNormal_mk ?_
    go_wp2
    refine bodyPost_ret (v := .agg #[.slice AR np cR, .slice (some ⟨G, 0, none⟩) nw cG]) (by simp [results, Tryd.results29, go_sem, t0, t1]) rfl ⟨AR, cR, _, cG, rfl, ?_, ?_, ?_⟩
    · exact rd_set2 RP.out
    · exact rd_set2 RW.out
    · rw [HXX.out]
      exact (HBE.out.setCell (p := ⟨x + 1, 0, none⟩) (Nat.le_add_right x 1) _).setCell (p := ⟨x + 1, 1, none⟩) (Nat.le_add_right x 1) _
  · unfold wpMid
    simp only [opsAt_nil, opsAt_cons, consOpt_some, List.getElem?_toArray, List.getElem?_cons_zero, List.getElem?_cons_succ]
    go_wp2
    have hb02 : Below W0.heap.size W0 (wd.alloc (.cells #[] 92)) := hbd.alloc hbd.size _
    have gq2 : (wd.alloc (.cells #[] 92)).heap[wd.heap.size]? = some (.cells #[] 92 (0, 0)) := by rw [heapq_alloc, if_pos rfl]
    have hg : W0.heap.size ≤ wd.heap.size := hbd.size
    generalize wd.alloc (.cells #[] 92) = w2 at *
    generalize wd.heap.size = g at *
    refine onlyNormal_mk ⟨⟨⟨_, hb02⟩, rfl⟩, ?_⟩
    refine wpE_one (i := 2) rfl (by kernel_rfl) rfl ?_
    unfold wpMid
    simp only [opsAt_nil, opsAt_cons, consOpt_some, List.getElem?_toArray, List.getElem?_cons_zero, List.getElem?_cons_succ]
    go_wp2_with (go_at_call 54; refine (CopyInts_any w2 B Ap np cp pp HL.out hn (hp0.below (hb02.mono hBW)) (Nat.le_trans hBW hb02.size)).mono ?_; rintro e w3 ⟨AR, cR, rfl, hR3, hb3⟩)
    have hb03 := hb02.trans (hb3.mono hb02.size)
    have gq := (hb3.block g (lt_of_block gq2)).trans gq2
    refine onlyNormal_mk ⟨⟨⟨_, hb03⟩, rfl⟩, ?_⟩
    refine wpE_one (i := 6) rfl (by kernel_rfl) rfl ?_
    unfold wpMid
    simp only [opsAt_nil, opsAt_cons, consOpt_some, List.getElem?_toArray, List.getElem?_cons_zero, List.getElem?_cons_succ]
    have hrd := hw0.below (hb03.mono hBW)
    have hgl := lt_of_block gq
    have n3 := rd_ne hR3 gq (fun i n h => by simp at h)
    refine wpList_append_copy w3 rfl _ _ 40 rfl g 92 i1 _ 3 24 Tryd.underlying40 hi1 hy0 hy1 hy2 rfl (by omega) g rfl gq (Nat.le_refl _) B Aw nw cw (evCells ws) rfl (by rw [evCells_len, HLW.out]) hrd (evCells_one ws) (by simp only [maxLen]; omega) (by omega) (Nat.le_of_lt hgl) ?_
    intro G cG w4 hown hgrow _
    have hb4 : Below W0.heap.size W0 w4 := hb03.grown hgrow hb03.size (fun k hk => by rw [← Option.some.inj hk]; exact hg)
    have hG := ownBlk hown rfl
    have hR4 := rd_kept hR3 hgrow n3
    have hk4 := (hb4.block (x + 1) HX.out).trans K1.out
    have n4 := rd_ne hR4 hk4 (fun i n h => by rcases i with _ | _ | i <;> simp at h)
    have s4 := hgrow.size
    have RPP : Rd w4 w3.heap.size AR (intCells pp) ∧ w3.heap.size ≤ w4.heap.size ∧ _ := ⟨hR4, s4, n4⟩
    have RWW : Rd w4 w4.heap.size (some ⟨G, 0, none⟩) (evCells ws) ∧ w4.heap.size ≤ w4.heap.size ∧ ∀ (k : Nat) (u : Value), (evCells ws)[k]? = some u → ∀ b off, some (⟨G, 0, none⟩ : Addr) = some ⟨b, off, none⟩ → b ≠ x + 1 :=
      ⟨Rd_of_own hown, Nat.le_refl _, fun k u _ b off he => by
        simp only [Option.some.injEq, Addr.mk.injEq, and_true] at he
        have := HX.out
        have := hG.1
        omega⟩
    clear hrd n3 hown hgrow hR4 hk4 n4
    refine onlyNormal_mk ⟨⟨⟨_, hb4⟩, rfl⟩, ?_⟩
    refine wpE_tail rfl (by kernel_rfl) ?_
    simp only [opsAt_nil, opsAt_cons, consOpt_some, List.getElem?_toArray, List.getElem?_cons_zero, List.getElem?_cons_succ]
    have hk := (hb4.block (x + 1) HX.out).trans K1.out
    have t0 := cell_of_row w4 (x + 1) 0 _ _ _ hk
    have t1 := cell_of_row w4 (x + 1) 1 _ _ _ hk
    simp at t0 t1
    have q0 := frozen_of_row w4 (x + 1) 0 _ _ hk
    have q1 := frozen_of_row w4 (x + 1) 1 _ _ hk
    have RP := Lib.hid RPP
    have RW := Lib.hid RWW
    have HBE := Lib.hid (HB.out.trans (hb4.mono hs1))
    clear hk
    go_wp2
    refine onlyNormal_mk ?_
    go_wp2
    refine bodyPost_ret (v := .agg #[.slice AR np cR, .slice (some ⟨G, 0, none⟩) nw cG]) (by simp [results, Tryd.results29, go_sem, t0, t1]) rfl ⟨AR, cR, _, cG, rfl, ?_, ?_, ?_⟩
    · exact rd_set2 RP.out
    · exact rd_set2 RW.out
    · rw [HXX.out]
      exact (HBE.out.setCell (p := ⟨x + 1, 0, none⟩) (Nat.le_add_right x 1) _).setCell (p := ⟨x + 1, 1, none⟩) (Nat.le_add_right x 1) _


end Go.Proofs.YtmcjnfghlpnghaaDoor

namespace Go.Proofs.YtmcjnfghlpnghaaDoor
open Go.RowKit

/-- the first error of rooms and ticks -/
def rtE (pp : List Int) (ws : List Ev) (ticks : Int) : Int := firstE [(roomsM pp ws).2, ticksE ticks]

set_option maxHeartbeats 2000000 in
theorem OutBy_no (w : World) (B : Nat) (Ap Aw : Option Addr) (np cp nw cw : Nat) (pp : List Int) (ws : List Ev) (hl : pp.length = np) (hlw : ws.length = nw) (hp : Rd w B Ap (intCells pp)) (hw : Rd w B Aw (evCells ws)) (hBw : B ≤ w.heap.size) (ticks : Int) (h0 : rtE pp ws ticks ≠ 0) :
    Calls Tryd.prog 30 #[.agg #[.slice Ap np cp, .slice Aw nw cw], .int .i64 ticks] w (LeastPost w 0 (rtE pp ws ticks)) := by
  have HL := Lib.hid hl
  have HLW := Lib.hid hlw
  have hb0 : Below w.heap.size w (w.alloc (.cells #[.slice Ap np cp, .slice Aw nw cw] 42)) := (Below.refl _ _).alloc (Nat.le_refl _) _
  have hp0 := hp.below (hb0.mono hBw)
  have hw0 := hw.below (hb0.mono hBw)
  have hs1 : w.heap.size ≤ (w.alloc (.cells #[.slice Ap np cp, .slice Aw nw cw] 42)).heap.size := hb0.size
  have hB0 : B ≤ (w.alloc (.cells #[.slice Ap np cp, .slice Aw nw cw] 42)).heap.size := Nat.le_trans hBw hs1
  have R := roomsErr_any Ap Aw np cp nw cw (w.alloc (.cells #[.slice Ap np cp, .slice Aw nw cw] 42)) B pp ws hl hlw hp0 hw0 hB0
  unfold ErrVal at R
  have k0 : (w.alloc (.cells #[.slice Ap np cp, .slice Aw nw cw] 42)).heap[w.heap.size]? = some (.cells #[.slice Ap np cp, .slice Aw nw cw] 42 (0, 0)) := by rw [heapq_alloc, if_pos rfl]
  have a0 : (w.alloc (.cells #[.slice Ap np cp, .slice Aw nw cw] 42)).cell? ⟨w.heap.size, 0, none⟩ = some (.slice Ap np cp) := (cell_of_row _ _ 0 _ _ _ k0).trans rfl
  have a1 : (w.alloc (.cells #[.slice Ap np cp, .slice Aw nw cw] 42)).cell? ⟨w.heap.size, 1, none⟩ = some (.slice Aw nw cw) := (cell_of_row _ _ 1 _ _ _ k0).trans rfl
  have Tk := fun W : World => ticksErr_any ticks W
  have HB := Lib.hid hb0
  have hne : (firstE [(roomsM pp ws).2, unlessE (withinB ticks 0 20) 2] != 0) = true := bne_iff_ne.2 h0
  have HV : Hid (rtE pp ws ticks = firstE [(roomsM pp ws).2, unlessE (withinB ticks 0 20) 2]) := rfl
  clear hl hlw hp hw hp0 hw0 hb0 k0 h0
  go_enter Tryd.func30, Tryd.ntmps30
  go_upto_region 1 with (fail)
  generalize (w.alloc (.cells #[.slice Ap np cp, .slice Aw nw cw] 42)) = w0 at *
  go_wp2_with (first | (go_at_call 100; refine R.mono ?_; rintro e w1 ⟨rfl, hb1⟩) | (go_at_call 101; refine (Tk _).mono ?_; rintro e w' ⟨rfl, rfl⟩) | (go_at_call 91; refine (first2 _ _ _).mono ?_; rintro e w' ⟨rfl, rfl⟩))
  go_ret2
  exact ⟨by rw [HV.out]; rfl, (HB.out.trans (hb1.mono hs1)).alloc (Nat.le_trans hs1 hb1.size) _⟩

set_option maxHeartbeats 2000000 in
theorem LeastTime_no (w : World) (B : Nat) (Ap Aw : Option Addr) (np cp nw cw : Nat) (pp : List Int) (ws : List Ev) (hl : pp.length = np) (hlw : ws.length = nw) (hp : Rd w B Ap (intCells pp)) (hw : Rd w B Aw (evCells ws)) (hBw : B ≤ w.heap.size) (ticks : Int) (h0 : rtE pp ws ticks ≠ 0) :
    Calls Tryd.prog 31 #[.agg #[.slice Ap np cp, .slice Aw nw cw], .int .i64 ticks] w (LeastPost w 0 (rtE pp ws ticks)) := by
  have HL := Lib.hid hl
  have HLW := Lib.hid hlw
  have hb0 : Below w.heap.size w (w.alloc (.cells #[.slice Ap np cp, .slice Aw nw cw] 42)) := (Below.refl _ _).alloc (Nat.le_refl _) _
  have hp0 := hp.below (hb0.mono hBw)
  have hw0 := hw.below (hb0.mono hBw)
  have hs1 : w.heap.size ≤ (w.alloc (.cells #[.slice Ap np cp, .slice Aw nw cw] 42)).heap.size := hb0.size
  have hB0 : B ≤ (w.alloc (.cells #[.slice Ap np cp, .slice Aw nw cw] 42)).heap.size := Nat.le_trans hBw hs1
  have R := roomsErr_any Ap Aw np cp nw cw (w.alloc (.cells #[.slice Ap np cp, .slice Aw nw cw] 42)) B pp ws hl hlw hp0 hw0 hB0
  unfold ErrVal at R
  have k0 : (w.alloc (.cells #[.slice Ap np cp, .slice Aw nw cw] 42)).heap[w.heap.size]? = some (.cells #[.slice Ap np cp, .slice Aw nw cw] 42 (0, 0)) := by rw [heapq_alloc, if_pos rfl]
  have a0 : (w.alloc (.cells #[.slice Ap np cp, .slice Aw nw cw] 42)).cell? ⟨w.heap.size, 0, none⟩ = some (.slice Ap np cp) := (cell_of_row _ _ 0 _ _ _ k0).trans rfl
  have a1 : (w.alloc (.cells #[.slice Ap np cp, .slice Aw nw cw] 42)).cell? ⟨w.heap.size, 1, none⟩ = some (.slice Aw nw cw) := (cell_of_row _ _ 1 _ _ _ k0).trans rfl
  have Tk := fun W : World => ticksErr_any ticks W
  have HB := Lib.hid hb0
  have hne : (firstE [(roomsM pp ws).2, unlessE (withinB ticks 0 20) 2] != 0) = true := bne_iff_ne.2 h0
  have HV : Hid (rtE pp ws ticks = firstE [(roomsM pp ws).2, unlessE (withinB ticks 0 20) 2]) := rfl
  clear hl hlw hp hw hp0 hw0 hb0 k0 h0
  go_enter Tryd.func31, Tryd.ntmps31
  go_upto_region 1 with (fail)
  generalize (w.alloc (.cells #[.slice Ap np cp, .slice Aw nw cw] 42)) = w0 at *
  go_wp2_with (first | (go_at_call 100; refine R.mono ?_; rintro e w1 ⟨rfl, hb1⟩) | (go_at_call 101; refine (Tk _).mono ?_; rintro e w' ⟨rfl, rfl⟩) | (go_at_call 91; refine (first2 _ _ _).mono ?_; rintro e w' ⟨rfl, rfl⟩))
  go_ret2
  exact ⟨by rw [HV.out]; rfl, (HB.out.trans (hb1.mono hs1)).alloc (Nat.le_trans hs1 hb1.size) _⟩

theorem rtE_zero {pp : List Int} {ws : List Ev} {ticks : Int} (h : rtE pp ws ticks = 0) : (roomsM pp ws).2 = 0 ∧ ∃ t : Nat, ticks = t ∧ t ≤ 20 := by
  unfold rtE at h
  simp only [firstE_cons, firstE_nil, and_true] at h
  obtain ⟨h1, h2⟩ := h
  unfold ticksE at h2
  rw [unlessE_zero (by omega)] at h2
  simp only [withinB, Bool.and_eq_true, decide_eq_true_eq] at h2
  obtain ⟨t, rfl⟩ := Int.eq_ofNat_of_zero_le h2.1
  exact ⟨h1, t, rfl, by omega⟩

set_option maxHeartbeats 2000000 in
theorem OutBy_yes (w : World) (B : Nat) (Ap Aw : Option Addr) (np cp nw cw : Nat) (pp : List Int) (ws : List Ev) (hl : pp.length = np) (hlw : ws.length = nw) (hp : Rd w B Ap (intCells pp)) (hw : Rd w B Aw (evCells ws)) (hBw : B ≤ w.heap.size) (T : Nat) (h0 : rtE pp ws T = 0) (k f : Nat) (F : Fl) (hr : runM k f (builtM pp ws T) = some F) :
    Calls Tryd.prog 30 #[.agg #[.slice Ap np cp, .slice Aw nw cw], .int .i64 T] w (LeastPost w F.o 0) := by
  have HL := Lib.hid hl
  have HLW := Lib.hid hlw
  have hb0 : Below w.heap.size w (w.alloc (.cells #[.slice Ap np cp, .slice Aw nw cw] 42)) := (Below.refl _ _).alloc (Nat.le_refl _) _
  have hp0 := hp.below (hb0.mono hBw)
  have hw0 := hw.below (hb0.mono hBw)
  have hs1 : w.heap.size ≤ (w.alloc (.cells #[.slice Ap np cp, .slice Aw nw cw] 42)).heap.size := hb0.size
  have hB0 : B ≤ (w.alloc (.cells #[.slice Ap np cp, .slice Aw nw cw] 42)).heap.size := Nat.le_trans hBw hs1
  have R := roomsErr_any Ap Aw np cp nw cw (w.alloc (.cells #[.slice Ap np cp, .slice Aw nw cw] 42)) B pp ws hl hlw hp0 hw0 hB0
  unfold ErrVal at R
  have k0 : (w.alloc (.cells #[.slice Ap np cp, .slice Aw nw cw] 42)).heap[w.heap.size]? = some (.cells #[.slice Ap np cp, .slice Aw nw cw] 42 (0, 0)) := by rw [heapq_alloc, if_pos rfl]
  have a0 : (w.alloc (.cells #[.slice Ap np cp, .slice Aw nw cw] 42)).cell? ⟨w.heap.size, 0, none⟩ = some (.slice Ap np cp) := (cell_of_row _ _ 0 _ _ _ k0).trans rfl
  have a1 : (w.alloc (.cells #[.slice Ap np cp, .slice Aw nw cw] 42)).cell? ⟨w.heap.size, 1, none⟩ = some (.slice Aw nw cw) := (cell_of_row _ _ 1 _ _ _ k0).trans rfl
  have Tk := fun W : World => ticksErr_any (T : Int) W
  have HB := Lib.hid hb0
  obtain ⟨hz1, t, ht, ht20⟩ := rtE_zero h0
  have hT : T ≤ 20 := by omega
  have hne : (firstE [(roomsM pp ws).2, unlessE (withinB (T : Int) 0 20) 2] != 0) = false := by
    rw [show firstE [(roomsM pp ws).2, unlessE (withinB (T : Int) 0 20) 2] = 0 from h0]
    rfl
  have OK := Lib.hid (roomsOk_of hz1)
  have HR := Lib.hid hr
  clear hl hlw hp hw hb0 k0 h0 hz1 ht hr
  go_enter Tryd.func30, Tryd.ntmps30
  go_upto_region 1 with (fail)
  generalize (w.alloc (.cells #[.slice Ap np cp, .slice Aw nw cw] 42)) = w0 at *
  go_upto_region 4 with (first | (go_at_call 100; refine R.mono ?_; rintro e w1 ⟨rfl, hb1⟩) | (go_at_call 101; refine (Tk _).mono ?_; rintro e w' ⟨rfl, rfl⟩) | (go_at_call 91; refine (first2 _ _ _).mono ?_; rintro e w' ⟨rfl, rfl⟩))
  have hbX := hb1.alloc hb1.size (.cells #[.int .i64 (roomsM pp ws).2, .int .i64 (unlessE (withinB (T : Int) 0 20) 2)] 29)
  replace a0 := kept hbX a0
  replace a1 := kept hbX a1
  replace hp0 := hp0.below (hbX.mono hB0)
  replace hw0 := hw0.below (hbX.mono hB0)
  have hs2 := Nat.le_trans hs1 hbX.size
  have hB2 := Nat.le_trans hB0 hbX.size
  replace HB := Lib.hid (HB.out.trans (hbX.mono hs1))
  clear hb1 hbX R Tk
  generalize w1.alloc (.cells #[.int .i64 (roomsM pp ws).2, .int .i64 (unlessE (withinB (T : Int) 0 20) 2)] 29) = w2 at *
  have C := flowOf_any w2 B Ap Aw np cp nw cw pp ws HL.out HLW.out hp0 hw0 hB2 OK.out T hT k f F HR.out
  clear hp0 hw0
  go_wp2_with (go_at_call 102; refine C.mono ?_; rintro e w3 ⟨g, rfl, hfa, hb3⟩; have g6 := hfa.out; clear hfa)
  go_ret2
  exact ⟨rfl, HB.out.trans (hb3.mono hs2)⟩
end Go.Proofs.YtmcjnfghlpnghaaDoor

namespace Go.Proofs.YtmcjnfghlpnghaaDoor
open Go.RowKit

theorem wayE_eq (np : Nat) (x : Ev) : wayE np x = bif withinB x.1 0 ((np : Int) - 1) && withinB x.2.1 (-1) ((np : Int) - 1) then (bif x.1 == x.2.1 then 13 else (bif withinB x.2.2 1 10000 then 0 else 2)) else 6 := by
  obtain ⟨f, t, m⟩ := x
  have e2 : (isRoomB np f && (t == -1 || isRoomB np t)) = (withinB f 0 ((np : Int) - 1) && withinB t (-1) ((np : Int) - 1)) := by
    rw [Bool.eq_iff_iff]
    simp only [isRoomB, withinB, Bool.and_eq_true, Bool.or_eq_true, decide_eq_true_eq, beq_iff_eq]
    omega
  have e4 : (decide (0 < m) && isCrowdB m) = withinB m 1 10000 := by
    rw [Bool.eq_iff_iff]
    simp only [isCrowdB, withinB, Bool.and_eq_true, decide_eq_true_eq]
    omega
  unfold wayE
  simp only [e2, e4]
  cases withinB f 0 ((np : Int) - 1) && withinB t (-1) ((np : Int) - 1)
  · rfl
  · by_cases h : f = t
    · have h1 : (f == t) = true := beq_iff_eq.2 h
      have h2 : (f != t) = false := by simp [h]
      simp only [h1, h2]
      cases withinB m 1 10000 <;> rfl
    · have h1 : (f == t) = false := beq_eq_false_iff_ne.2 h
      have h2 : (f != t) = true := bne_iff_ne.2 h
      simp only [h1, h2]
      cases withinB m 1 10000 <;> rfl

def RoomRel (pp : List Int) (np : Nat) (u4 : Value) : Prop := ∃ k : Nat, k ≤ np ∧ u4 = .int .i64 k ∧ idxGo notCrowdB (pp.drop k) k = idxGo notCrowdB pp 0
def WaysRel (w0 : World) (ws : List Ev) (np nw : Nat) (u5 : Value) (wr : World) : Prop := ∃ k : Nat, k ≤ nw ∧ u5 = .int .i64 k ∧ waysGo np (ws.drop k) k = waysGo np ws 0 ∧ Below w0.heap.size w0 wr

theorem idxGo_cons {α : Type} (p : α → Bool) (a : α) (l : List α) (k : Nat) : idxGo p (a :: l) k = if p a then (k : Int) else idxGo p l (k + 1) := rfl

set_option maxRecDepth 100000 in
set_option maxHeartbeats 8000000 in
theorem refRooms_any (Ap Aw : Option Addr) (np cp nw cw : Nat) (w : World) (B : Nat) (pp : List Int) (ws : List Ev) (hl : pp.length = np) (hlw : ws.length = nw) (hp : Rd w B Ap (intCells pp)) (hw : Rd w B Aw (evCells ws)) (hBw : B ≤ w.heap.size) :
    Calls Tryd.prog 32 #[.agg #[.slice Ap np cp, .slice Aw nw cw]] w (RoomsVal w pp ws) := by
  unfold RoomsVal
  obtain ⟨V, hV0⟩ : ∃ V, V = roomsM pp ws := ⟨_, rfl⟩
  rw [← hV0]
  have HVV := Lib.hid hV0
  clear hV0
  have hb0 : Below w.heap.size w (w.alloc (.cells #[.slice Ap np cp, .slice Aw nw cw] 42)) := (Below.refl _ _).alloc (Nat.le_refl _) _
  have hp0 := hp.below (hb0.mono hBw)
  have hw0 := hw.below (hb0.mono hBw)
  have hs1 : w.heap.size ≤ (w.alloc (.cells #[.slice Ap np cp, .slice Aw nw cw] 42)).heap.size := hb0.size
  have hB0 : B ≤ (w.alloc (.cells #[.slice Ap np cp, .slice Aw nw cw] 42)).heap.size := Nat.le_trans hBw hs1
  have k0 : (w.alloc (.cells #[.slice Ap np cp, .slice Aw nw cw] 42)).heap[w.heap.size]? = some (.cells #[.slice Ap np cp, .slice Aw nw cw] 42 (0, 0)) := by rw [heapq_alloc, if_pos rfl]
  have a0 : (w.alloc (.cells #[.slice Ap np cp, .slice Aw nw cw] 42)).cell? ⟨w.heap.size, 0, none⟩ = some (.slice Ap np cp) := (cell_of_row _ _ 0 _ _ _ k0).trans rfl
  have a1 : (w.alloc (.cells #[.slice Ap np cp, .slice Aw nw cw] 42)).cell? ⟨w.heap.size, 1, none⟩ = some (.slice Aw nw cw) := (cell_of_row _ _ 1 _ _ _ k0).trans rfl
  have HB := Lib.hid hb0
  have HL := Lib.hid hl
  have HLW := Lib.hid hlw
  clear hp hw hb0 k0
  by_cases h0 : np = 0
  · have hV : roomsM pp ws = (0, 10) := by simp [roomsM, hl, h0]
    have HVX := Lib.hid (HVV.out.trans hV)
    subst h0
    clear hl hlw hV hp0 hw0
    go_enter Tryd.func32, Tryd.ntmps32
    go_upto_region 1 with (fail)
    generalize (w.alloc (.cells #[.slice Ap 0 cp, .slice Aw nw cw] 42)) = w0 at *
    go_wp2
    go_ret2
    exact ⟨by rw [HVX.out]; rfl, HB.out⟩
  by_cases h1 : np ≤ 6
  · by_cases h2 : nw ≤ 16
    · have hV : roomsM pp ws = if 0 ≤ idxGo notCrowdB pp 0 then (idxGo notCrowdB pp 0, 2) else waysGo np ws 0 := by
        simp only [roomsM, hl, hlw, h0, if_false]
        rw [if_pos ⟨h1, h2⟩]
      have HVX := Lib.hid (HVV.out.trans hV)
      clear hl hlw hV
      have g1 : 1 ≤ np := by omega
      have g2 : ¬ (6 : Int) < (np : Int) := by omega
      have g3 : ¬ (16 : Int) < (nw : Int) := by omega
      have g4 : ((np : Int) == 0) = false := beq_eq_false_iff_ne.2 (by omega)
      clear h0
      go_enter Tryd.func32, Tryd.ntmps32
      go_upto_region 1 with (fail)
      generalize (w.alloc (.cells #[.slice Ap np cp, .slice Aw nw cw] 42)) = w0 at *
      go_wp2
      go_loop [4] (fun u4 => RoomRel pp np u4) (fun u4 => np - (intOf u4).toNat)
      case atStart => exact ⟨0, Nat.zero_le _, rfl, rfl⟩
      case round =>
        obtain ⟨k, hk, rfl, hid⟩ := hrel
        by_cases hlt : k < np
        · have hpk : k < pp.length := by rw [HL.out]; exact hlt
          obtain ⟨bp, off, rfl, hbB, hc⟩ := hp0.at_ (k := k) (u := .int .i64 (pp[k]?.getD 0)) (intCells_at pp k hpk)
          rw [drop_at pp 0 k hpk, idxGo_cons] at hid
          generalize pp[k]?.getD 0 = q at *
          cases hq : withinB q 0 10000
          · have hn : notCrowdB q = true := by simp [notCrowdB, isCrowdB, hq]
            rw [hn, if_pos rfl] at hid
            have HID := Lib.hid hid
            clear hid hn
            go_wp2_with (go_at_call 49; refine (Within_val _ _ _ _ hq _).mono ?_; rintro e w' ⟨rfl, rfl⟩)
            go_ret2
            refine ⟨?_, HB.out⟩
            have hX : V = ((k : Int), 2) := by rw [HVX.out, ← HID.out, if_pos (by omega)]
            rw [hX]
            rfl
          · have hn : notCrowdB q = false := by simp [notCrowdB, isCrowdB, hq]
            rw [hn] at hid
            have HID := Lib.hid hid
            clear hid hn
            go_wp2_with (go_at_call 49; refine (Within_val _ _ _ _ hq _).mono ?_; rintro e w' ⟨rfl, rfl⟩)
            go_round
            case rel => exact ⟨k + 1, by omega, by go_num, HID.out⟩
            case measure => simp [intOf]; omega
        · obtain rfl : k = np := by omega
          have hd : pp.drop k = [] := by rw [List.drop_eq_nil_iff]; rw [HL.out]; exact Nat.le_refl _
          rw [hd] at hid
          have HV : Hid ((if 0 ≤ idxGo notCrowdB pp 0 then (idxGo notCrowdB pp 0, 2) else waysGo k ws 0) = waysGo k ws 0) := by
            rw [Hid, ← hid, if_neg (by simp [idxGo])]
          clear hid hd hp0
          go_wp2
          go_loopw [5] (fun u5 wr => WaysRel w0 ws k nw u5 wr) (fun u5 _ => nw - (intOf u5).toNat)
          case atStart => exact ⟨0, Nat.zero_le _, rfl, rfl, Below.refl _ _⟩
          case round =>
            obtain ⟨j, hj, rfl, hgo, hb⟩ := hrel
            have HGO := Lib.hid hgo
            have HBJ := Lib.hid hb
            have a0' := kept hb a0
            have a1' := kept hb a1
            have hsj := hb.size
            have hwj := hw0.below (hb.mono hB0)
            clear hgo hb a0 a1
            by_cases hlt2 : j < nw
            · have hjl : j < ws.length := by rw [HLW.out]; exact hlt2
              obtain ⟨ev, hev⟩ : ∃ ev, ws[j]? = some ev := ⟨_, List.getElem?_eq_getElem hjl⟩
              obtain ⟨z0, z1, z2⟩ := evCells_at ws j ev hev
              obtain ⟨b, off, rfl, hbB, e0, e1, e2⟩ := hwj.at3 z0 z1 z2
              have hdr : ws.drop j = ev :: ws.drop (j + 1) := by
                rw [drop_at ws ev j hjl, hev]
                rfl
              have hgo : waysGo k (ev :: ws.drop (j + 1)) j = waysGo k ws 0 := by rw [← hdr]; exact HGO.out
              have HWG := Lib.hid hgo
              have HWE := Lib.hid (wayE_eq k ev)
              obtain ⟨f, t, m⟩ := ev
              simp only at e0 e1 e2 HWE
              clear z0 z1 z2 hev hjl hdr hgo hwj HGO
              have hba : Below wr.heap.size wr (wr.alloc (.cells #[.int .i64 f, .int .i64 t, .int .i64 m] 92)) := (Below.refl _ _).alloc (Nat.le_refl _) _
              have HBK := Lib.hid (HBJ.out.trans (hba.mono hsj))
              have HBF := Lib.hid (HB.out.trans (HBK.out.mono hs1))
              have kb : (wr.alloc (.cells #[.int .i64 f, .int .i64 t, .int .i64 m] 92)).heap[wr.heap.size]? = some (.cells #[.int .i64 f, .int .i64 t, .int .i64 m] 92 (0, 0)) := by rw [heapq_alloc, if_pos rfl]
              obtain ⟨m0, m1, m2⟩ := cells3w kb
              replace a0' := kept hba a0'
              clear hba HBJ kb
              go_upto_region 14 with (fail)
              generalize wr.alloc (.cells #[.int .i64 f, .int .i64 t, .int .i64 m] 92) = wa at *
              generalize wr.heap.size = zb at *
              cases q1 : withinB f 0 ((k : Int) - 1) <;> cases q2 : withinB t (-1) ((k : Int) - 1) <;> cases q3 : (f == t) <;> cases q4 : withinB m 1 10000
              all_goals
                have HWX : Hid (wayE k (f, t, m) = _) := HWE.out
                rw [q1, q2, q3, q4] at HWX
                first
                  | (have HZ : Hid (waysGo k ws 0 = waysGo k (ws.drop (j + 1)) (j + 1)) := by
                       rw [Hid, ← HWG.out]
                       conv => lhs; unfold waysGo
                       rw [if_pos (HWX.out.trans (by rfl : _ = (0 : Int)))]
                     clear HWX HWE HWG
                     go_wp2_with (first | (go_at_call_of 49 (Value.int .i64 f); refine (Within_val _ _ _ _ q1 _).mono ?_; rintro e w' ⟨rfl, rfl⟩) | (go_at_call_of 49 (Value.int .i64 t); refine (Within_val _ _ _ _ q2 _).mono ?_; rintro e w' ⟨rfl, rfl⟩) | (go_at_call_of 49 (Value.int .i64 m); refine (Within_val _ _ _ _ q4 _).mono ?_; rintro e w' ⟨rfl, rfl⟩))
                     go_roundw
                     case rel => exact ⟨j + 1, by omega, by go_num, HZ.out.symm, HBK.out⟩
                     case measure => simp [intOf]; omega)
                  | (have HZ : Hid (waysGo k ws 0 = ((j : Int), wayE k (f, t, m))) := by
                       rw [Hid, ← HWG.out]
                       conv => lhs; unfold waysGo
                       rw [if_neg (by rw [HWX.out]; decide)]
                     clear HWE HWG
                     go_wp2_with (first | (go_at_call_of 49 (Value.int .i64 f); refine (Within_val _ _ _ _ q1 _).mono ?_; rintro e w' ⟨rfl, rfl⟩) | (go_at_call_of 49 (Value.int .i64 t); refine (Within_val _ _ _ _ q2 _).mono ?_; rintro e w' ⟨rfl, rfl⟩) | (go_at_call_of 49 (Value.int .i64 m); refine (Within_val _ _ _ _ q4 _).mono ?_; rintro e w' ⟨rfl, rfl⟩))
                     go_ret2
                     exact ⟨by rw [HVX.out, HV.out, HZ.out, HWX.out]; rfl, HBF.out⟩)
            · obtain rfl : j = nw := by omega
              have hd : ws.drop j = [] := by rw [List.drop_eq_nil_iff]; rw [HLW.out]; exact Nat.le_refl _
              have HZ : Hid (waysGo k ws 0 = (0, 0)) := by
                rw [Hid, ← HGO.out, hd]
                rfl
              have HBF := Lib.hid (HB.out.trans (HBJ.out.mono hs1))
              clear hd HGO hwj
              go_wp2
              go_ret2
              exact ⟨by rw [HVX.out, HV.out, HZ.out]; rfl, HBF.out⟩
    · have hV : roomsM pp ws = (0, 8) := by
        simp only [roomsM, hl, hlw, h0, if_false]
        rw [if_neg (by omega)]
      have HVX := Lib.hid (HVV.out.trans hV)
      clear hl hlw hV hp0 hw0
      have g2 : ¬ (6 : Int) < (np : Int) := by omega
      have g3 : (16 : Int) < (nw : Int) := by omega
      have g4 : ((np : Int) == 0) = false := beq_eq_false_iff_ne.2 (by omega)
      clear h0
      go_enter Tryd.func32, Tryd.ntmps32
      go_upto_region 1 with (fail)
      generalize (w.alloc (.cells #[.slice Ap np cp, .slice Aw nw cw] 42)) = w0 at *
      go_wp2
      go_ret2
      exact ⟨by rw [HVX.out]; rfl, HB.out⟩
  · have hV : roomsM pp ws = (0, 8) := by
      simp only [roomsM, hl, hlw, h0, if_false]
      rw [if_neg (by omega)]
    have HVX := Lib.hid (HVV.out.trans hV)
    clear hl hlw hV hp0 hw0
    have g2 : (6 : Int) < (np : Int) := by omega
    have g4 : ((np : Int) == 0) = false := beq_eq_false_iff_ne.2 (by omega)
    clear h0
    go_enter Tryd.func32, Tryd.ntmps32
    go_upto_region 1 with (fail)
    generalize (w.alloc (.cells #[.slice Ap np cp, .slice Aw nw cw] 42)) = w0 at *
    go_wp2
    go_ret2
    exact ⟨by rw [HVX.out]; rfl, HB.out⟩
end Go.Proofs.YtmcjnfghlpnghaaDoor
