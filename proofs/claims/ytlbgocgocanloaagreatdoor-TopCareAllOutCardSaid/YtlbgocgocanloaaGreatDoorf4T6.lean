/- The word of a text among the kinds: the closure, IndexFunc over the table. -/
import Derived.Test.YtlbgocgocanloaaGreatDoorf4T5
namespace Go.Proofs.YtlbgocgocanloaaGreatDoor
open Go.RowKit
/-- a row of the table of kinds -/
theorem kind_cells {w : World} (hk : KindsAt w) (k : Nat) (h : k < 8) : ∃ f, w.cell? ⟨0, k * 4, none⟩ = some (.string (ba (wordL k))) ∧ w.cell? ⟨0, k * 4 + 1, none⟩ = some (.bool (decide (k = 1))) ∧ w.cell? ⟨0, k * 4 + 2, none⟩ = some (.bool (decide (2 ≤ k) && decide (k ≤ 5))) ∧ w.cell? ⟨0, k * 4 + 3, none⟩ = some (.func (.func f) #[] #[]) := by
  match k, h with
  | 0, _ => exact ⟨231, hk 0 _ rfl, hk 1 _ rfl, hk 2 _ rfl, hk 3 _ rfl⟩
  | 1, _ => exact ⟨232, hk 4 _ rfl, hk 5 _ rfl, hk 6 _ rfl, hk 7 _ rfl⟩
  | 2, _ => exact ⟨233, hk 8 _ rfl, hk 9 _ rfl, hk 10 _ rfl, hk 11 _ rfl⟩
  | 3, _ => exact ⟨234, hk 12 _ rfl, hk 13 _ rfl, hk 14 _ rfl, hk 15 _ rfl⟩
  | 4, _ => exact ⟨235, hk 16 _ rfl, hk 17 _ rfl, hk 18 _ rfl, hk 19 _ rfl⟩
  | 5, _ => exact ⟨236, hk 20 _ rfl, hk 21 _ rfl, hk 22 _ rfl, hk 23 _ rfl⟩
  | 6, _ => exact ⟨237, hk 24 _ rfl, hk 25 _ rfl, hk 26 _ rfl, hk 27 _ rfl⟩
  | 7, _ => exact ⟨238, hk 28 _ rfl, hk 29 _ rfl, hk 30 _ rfl, hk 31 _ rfl⟩
theorem isWord_any (a x : ByteArray) (p d : Bool) (f g : Nat) (w : World) (hc : w.cell? ⟨g, 0, none⟩ = some (.string x)) :
    Calls Tryz.prog 46 #[.agg #[.string a, .bool p, .bool d, .func (.func f) #[] #[]], .pointer (some ⟨g, 0, none⟩)] w fun e w' => e = .returned (.bool (a.toList == x.toList)) ∧ Below w.heap.size w w' := by
  have hb0 : Below w.heap.size w (w.alloc (.cells #[.string a, .bool p, .bool d, .func (.func f) #[] #[]] 100)) := (Below.refl _ _).alloc (Nat.le_refl _) _
  have hc' := cell_alloc_old (.cells #[.string a, .bool p, .bool d, .func (.func f) #[] #[]] 100) hc
  go_enter Tryz.func46, Tryz.ntmps46
  go_wp2
  go_ret
  exact ⟨rfl, hb0⟩
def findV (l : List UInt8) : Int := match findK l with
  | some k => (k : Int)
  | none => -1
theorem findV_yes {l : List UInt8} {k : Nat} (hk : k < 8) (h : wordL k = l) : findV l = k := by
  unfold findV
  rw [← h, findK_word k hk]
theorem findV_no {l : List UInt8} (h : ∀ k, k < 8 → wordL k ≠ l) : findV l = -1 := by
  unfold findV
  cases hf : findK l with
  | none => rfl
  | some k =>
    obtain ⟨h1, h2⟩ := findK_some hf
    exact absurd h2 (h k h1)
def IdxRel (w : World) (x : ByteArray) (i : Value) (wr : World) : Prop := ∃ k : Nat, k ≤ 8 ∧ i = .int .i64 k ∧ (∀ j, j < k → wordL j ≠ x.data.toList) ∧ Below w.heap.size w wr
set_option maxRecDepth 100000 in
theorem IndexK_any (x : ByteArray) (g : Nat) (w : World) (hk : KindsAt w) (hc : w.cell? ⟨g, 0, none⟩ = some (.string x)) :
    Calls Tryz.prog 45 #[.slice (some ⟨0, 0, none⟩) 8 8, .func (.func 46) #[] #[.pointer (some ⟨g, 0, none⟩)]] w fun e w' => e = .returned (.int .i64 (findV x.data.toList)) ∧ Below w.heap.size w w' := by
  go_enter Tryz.func45, Tryz.ntmps45
  go_wp2
  go_loopw [5, 8] (fun _ i wr => IdxRel w x i wr) (fun _ i _ => 8 - (intOf i).toNat)
  case atStart => exact ⟨0, Nat.zero_le _, rfl, fun j h => absurd h (by omega), Below.refl _ _⟩
  case round =>
    obtain ⟨k, hk8, rfl, hno, hb⟩ := hrel
    by_cases hlt : k < 8
    · obtain ⟨f, c0, c1, c2, c3⟩ := kind_cells (hk.below hb) k hlt
      have C := isWord_any (ba (wordL k)) x (decide (k = 1)) (decide (2 ≤ k) && decide (k ≤ 5)) f g wr (kept hb hc)
      have HB := Lib.hid hb
      have hsz := hb.size
      have HX : Hid (((ba (wordL k)).toList == x.toList) = decide (wordL k = x.data.toList)) := by
        rw [Hid, Lib.toList_data, Lib.toList_data, ba_data]
        by_cases h : wordL k = x.data.toList
        · rw [decide_eq_true h, h]; exact beq_self_eq_true _
        · rw [decide_eq_false h]; exact beq_eq_false_iff_ne.2 h
      rw [HX.out] at C
      have HNO := Lib.hid hno
      clear hb hno HX
      have hki : (k : Int) < 8 := by omega
      generalize decide (k = 1) = p at *
      generalize (decide (2 ≤ k) && decide (k ≤ 5)) = d at *
      by_cases hw : wordL k = x.data.toList
      · rw [decide_eq_true hw] at C
        have HV : Hid (findV x.data.toList = k) := findV_yes hlt hw
        clear hw
        generalize ba (wordL k) = nm at *
        go_wp2_with (go_at_call 46; refine C.mono ?_; rintro e w1 ⟨rfl, hb1⟩)
        go_ret
        exact ⟨by rw [HV.out]; rfl, HB.out.trans (hb1.mono hsz)⟩
      · rw [decide_eq_false hw] at C
        have HW := Lib.hid hw
        clear hw
        generalize ba (wordL k) = nm at *
        go_wp2_with (go_at_call 46; refine C.mono ?_; rintro e w1 ⟨rfl, hb1⟩)
        go_roundw
        case rel => exact ⟨k + 1, by omega, by go_num, fun j hj => by
          rcases Nat.lt_or_ge j k with h | h
          · exact HNO.out j h
          · obtain rfl : j = k := by omega
            exact HW.out, HB.out.trans (hb1.mono hsz)⟩
        case measure => simp [intOf]; omega
    · have HV : Hid (findV x.data.toList = -1) := findV_no fun j hj => hno j (by omega)
      have hki : ¬ (k : Int) < 8 := by omega
      go_wp2
      go_ret
      exact ⟨by rw [HV.out]; rfl, hb⟩
end Go.Proofs.YtlbgocgocanloaaGreatDoor
