/- The steps of a label: read back, turned round. -/
import Derived.Test.YtnnnpijepdjanaaGreatB11
namespace Go.Proofs.YtnnnpijepdjanaaGreat
open Go.RowKit

/-- a row of steps -/
def sCells (l : List (Int × Bool)) : List Value := l.flatMap fun s => [.int .i64 s.1, .bool s.2]
theorem sCells_cons (x : Int × Bool) (l : List (Int × Bool)) : sCells (x :: l) = [.int .i64 x.1, .bool x.2] ++ sCells l := by simp [sCells]
theorem sCells_len : ∀ l : List (Int × Bool), (sCells l).length = l.length * 2
  | [] => rfl
  | x :: l => by
    rw [sCells_cons, List.length_append, sCells_len l, List.length_cons]
    simp
    omega
theorem sCells_at : ∀ (l : List (Int × Bool)) (k : Nat) (x : Int × Bool), l[k]? = some x → (sCells l)[k * 2]? = some (.int .i64 x.1) ∧ (sCells l)[k * 2 + 1]? = some (.bool x.2)
  | [], k, x, h => by simp at h
  | y :: l, 0, x, h => by
    simp at h
    subst h
    simp [sCells_cons]
  | y :: l, k + 1, x, h => by
    have h' : l[k]? = some x := by simpa using h
    obtain ⟨h1, h2⟩ := sCells_at l k x h'
    rw [sCells_cons, List.getElem?_append_right (by simp; omega), List.getElem?_append_right (by simp; omega)]
    have e1 : (k + 1) * 2 - [Value.int .i64 y.1, Value.bool y.2].length = k * 2 := by simp; omega
    have e2 : (k + 1) * 2 + 1 - [Value.int .i64 y.1, Value.bool y.2].length = k * 2 + 1 := by simp; omega
    rw [e1, e2]
    exact ⟨h1, h2⟩
theorem sCells_set : ∀ (l : List (Int × Bool)) (k : Nat) (x : Int × Bool), k < l.length → ((sCells l).set (k * 2) (.int .i64 x.1)).set (k * 2 + 1) (.bool x.2) = sCells (l.set k x)
  | [], k, x, h => by simp at h
  | y :: l, 0, x, _ => by simp [sCells_cons]
  | y :: l, k + 1, x, h => by
    have h' : k < l.length := by simpa using h
    have e1 : (k + 1) * 2 = k * 2 + 1 + 1 := by omega
    rw [List.set_cons_succ, sCells_cons, sCells_cons, ← sCells_set l k x h', e1]
    rfl
def RevRel (w0 : World) (base g c n : Nat) (u2 u3 : Value) (wr : World) : Prop :=
  ∃ (i : Nat) (j : Int) (l : List (Int × Bool)), i ≤ n ∧ (i : Int) + j = (n : Int) - 1 ∧ u2 = .int .i64 i ∧ u3 = .int .i64 j ∧ l.length = n ∧ wr.ownsRow base 79 2 (.slice (some ⟨g, 0, none⟩) n c) n (sCells l) ∧ Below base w0 wr
def RevPost (w : World) (base : Nat) (e : Ending) (w' : World) : Prop := (∃ v, e = .returned v) ∧ Below base w w'
set_option maxRecDepth 100000 in
set_option maxHeartbeats 4000000 in
theorem Reverse_own (w : World) (base g c n : Nat) (l : List (Int × Bool)) (hn : n ≤ 1000) (hl : l.length = n) (h : w.ownsRow base 79 2 (.slice (some ⟨g, 0, none⟩) n c) n (sCells l)) :
    Calls Tryz.prog 64 #[.slice (some ⟨g, 0, none⟩) n c] w (RevPost w base) := by
  have HL := Lib.hid hl
  have HW := Lib.hid h
  clear hl h
  go_enter Tryz.func64, Tryz.ntmps64
  go_wp2
  go_loopw [2, 3] (fun u2 u3 wr => RevRel w base g c n u2 u3 wr) (fun u2 _ _ => n - (intOf u2).toNat)
  case atStart => exact ⟨0, (n : Int) - 1, l, Nat.zero_le _, by omega, rfl, rfl, HL.out, HW.out, Below.refl _ _⟩
  case round =>
    clear HL HW
    obtain ⟨i, j, l2, hi, hij, rfl, rfl, hl2, hown, hb⟩ := hrel
    by_cases hlt : (i : Int) < j
    · obtain ⟨jn, rfl⟩ := Int.eq_ofNat_of_zero_le (show 0 ≤ j by omega)
      obtain ⟨x, hx⟩ : ∃ x, l2[i]? = some x := ⟨_, List.getElem?_eq_getElem (by omega)⟩
      obtain ⟨y, hy⟩ : ∃ y, l2[jn]? = some y := ⟨_, List.getElem?_eq_getElem (by omega)⟩
      obtain ⟨x0, x1⟩ := sCells_at _ _ _ hx
      obtain ⟨y0, y1⟩ := sCells_at _ _ _ hy
      obtain ⟨a0, f0, hg, _⟩ := own_cell hown x0
      obtain ⟨a1, f1, _, _⟩ := own_cell hown x1
      obtain ⟨b0, q0, _, _⟩ := own_cell hown y0
      obtain ⟨b1, q1, _, _⟩ := own_cell hown y1
      have HB0 := Lib.hid hb
      have HOW := Lib.hid hown
      have hsz : base ≤ wr.heap.size := by
        have := (ownBlk hown rfl).2.1
        have := (ownBlk hown rfl).1
        omega
      obtain ⟨xa, xb⟩ := x
      obtain ⟨ya, yb⟩ := y
      simp only at a0 a1 b0 b1
      clear hown hb x0 x1 y0 y1
      go_upto_region 3 with (fail)
      have z0 := fun y : Xt wr => y.cell a0
      have z1 := fun y : Xt wr => y.cell a1
      have z2 := fun y : Xt wr => y.cell b0
      have z3 := fun y : Xt wr => y.cell b1
      refine wp_region_cut [2, 3] [0, 1, 4, 5, 6, 7, 8, 9, 10, 11, 12] 13 [14, 15] (fun w' => ∃ y : Xt wr, w' = y.1) (by kernel_rfl) (by kernel_rfl) ⟨⟨wr.drew, (Below.refl _ _).drew⟩, rfl⟩ ?_
      simp only [opsAt_nil, opsAt_cons, consOpt_some, List.getElem?_toArray, List.getElem?_cons_zero, List.getElem?_cons_succ]
      repeat (go_big_quiet_step (fail))
      refine wpQuiet_nil ?_
      show wpQuiet _ _ _ _ _ _
      repeat (go_big_quiet_step (fail))
      refine wpQuiet_nil ?_
      intro w1 hx1
      have hb1 := Xt.below hx1
      clear hx1 z0 z1 z2 z3 a0 a1 b0 b1 f0 f1 q0 q1
      have how := ownsRow_below HOW.out hb1
      have HO1 := Lib.hid how
      obtain ⟨p0, p1⟩ := sCells_at _ _ _ hx
      obtain ⟨r0, r1⟩ := sCells_at _ _ _ hy
      obtain ⟨a0, f0, _, _⟩ := own_cell how p0
      obtain ⟨a1, f1, _, _⟩ := own_cell how p1
      obtain ⟨b0, q0, _, _⟩ := own_cell how r0
      obtain ⟨b1, q1, _, _⟩ := own_cell how r1
      have n1 : i * 2 ≠ jn * 2 := by omega
      have n2 : i * 2 ≠ jn * 2 + 1 := by omega
      have n3 : i * 2 + 1 ≠ jn * 2 := by omega
      have n4 : i * 2 + 1 ≠ jn * 2 + 1 := by omega
      clear how p0 p1 r0 r1
      go_wp2
      refine onlyNormal_mk ?_
      have hl3 : ((l2.set i (ya, yb)).set jn (xa, xb)).length = n := by simpa using hl2
      have how4 : Hid (((((w1.setCell ⟨g, i * 2, none⟩ (.int .i64 ya)).setCell ⟨g, i * 2 + 1, none⟩ (.bool yb)).setCell ⟨g, jn * 2, none⟩ (.int .i64 xa)).setCell ⟨g, jn * 2 + 1, none⟩ (.bool xb)).ownsRow base 79 2 (.slice (some ⟨g, 0, none⟩) n c) n (sCells ((l2.set i (ya, yb)).set jn (xa, xb)))) := by
        rw [Hid, ← sCells_set (l2.set i (ya, yb)) jn (xa, xb) (by rw [List.length_set]; omega), ← sCells_set l2 i (ya, yb) (by omega)]
        exact own_set (own_set (own_set (own_set HO1.out _) _) _) _
      have hb4 : Hid (Below base w ((((w1.setCell ⟨g, i * 2, none⟩ (.int .i64 ya)).setCell ⟨g, i * 2 + 1, none⟩ (.bool yb)).setCell ⟨g, jn * 2, none⟩ (.int .i64 xa)).setCell ⟨g, jn * 2 + 1, none⟩ (.bool xb))) :=
        ((((HB0.out.trans (hb1.mono hsz)).setCell (p := ⟨g, i * 2, none⟩) hg _).setCell (p := ⟨g, i * 2 + 1, none⟩) hg _).setCell (p := ⟨g, jn * 2, none⟩) hg _).setCell (p := ⟨g, jn * 2 + 1, none⟩) hg _
      generalize ((((w1.setCell ⟨g, i * 2, none⟩ (.int .i64 ya)).setCell ⟨g, i * 2 + 1, none⟩ (.bool yb)).setCell ⟨g, jn * 2, none⟩ (.int .i64 xa)).setCell ⟨g, jn * 2 + 1, none⟩ (.bool xb)) = w2 at *
      clear a0 a1 b0 b1 f0 f1 q0 q1 n1 n2 n3 n4 hb1 HO1 HOW HB0
      go_wp2
      go_roundw
      case rel => exact ⟨i + 1, (jn : Int) - 1, _, by omega, by omega, by go_num, by go_num, hl3, how4.out, hb4.out⟩
      case measure => simp [intOf]; omega
    · go_wp2
      go_end0
      exact ⟨⟨_, rfl⟩, hb⟩
end Go.Proofs.YtnnnpijepdjanaaGreat
