/- Rescue: the error of a rescue. -/
import Derived.Test.YtmcjnfghlpnghaaGreatDoorB4
namespace Go.Proofs.YtmcjnfghlpnghaaGreatDoor
open Go.RowKit
/-- a depot: its place, and by how much it is late -/
abbrev Dep := Int × Int
def depCells (l : List Dep) : List Value := l.flatMap fun d => [.int .i64 d.1, .int .i64 d.2]
theorem depCells_at (l : List Dep) (k : Nat) (d : Dep) (h : l[k]? = some d) :
    (depCells l)[k * 2]? = some (.int .i64 d.1) ∧ (depCells l)[k * 2 + 1]? = some (.int .i64 d.2) := by
  induction l generalizing k with
  | nil => simp at h
  | cons a l ih =>
    cases k with
    | zero => simp at h; subst h; simp [depCells]
    | succ k =>
      have := ih k (by simpa using h)
      have e : depCells (a :: l) = [.int .i64 a.1, .int .i64 a.2] ++ depCells l := by simp [depCells]
      rw [e, show (k + 1) * 2 = k * 2 + 2 by omega, show k * 2 + 2 + 1 = k * 2 + 1 + 2 by omega]
      rw [List.getElem?_append_right (by simp), List.getElem?_append_right (by simp)]
      simpa using this
theorem Rd.at2 {w : World} {B : Nat} {A : Option Addr} {xs : List Value} (h : Rd w B A xs) {k : Nat} {u0 u1 : Value} (h0 : xs[k * 2]? = some u0) (h1 : xs[k * 2 + 1]? = some u1) :
    ∃ b off, A = some ⟨b, off, none⟩ ∧ b < B ∧ w.cell? ⟨b, off + k * 2, none⟩ = some u0 ∧ w.cell? ⟨b, off + k * 2 + 1, none⟩ = some u1 := by
  obtain ⟨b, off, rfl, hbB, d0⟩ := h.at_ h0
  obtain ⟨b1, off1, hA1, _, d1⟩ := h.at_ h1
  simp only [Option.some.injEq, Addr.mk.injEq, and_true] at hA1
  obtain ⟨rfl, rfl⟩ := hA1
  exact ⟨b, off, rfl, hbB, d0, by rw [← Nat.add_assoc] at d1; exact d1⟩
/-- is a depot wrong -/
def badDepB (L : Int) (d : Dep) : Bool := !withinB d.1 0 L || !isPlaceB d.2
theorem within_val (n lo hi : Int) (b : Bool) (hb : withinB n lo hi = b) (w : World) :
    Calls Tryz.prog 41 #[.int .i64 n, .int .i64 lo, .int .i64 hi] w fun e w' => e = .returned (.bool b) ∧ w = w' := by
  rw [← hb]
  exact within_any n lo hi w
theorem isPlace_val (n : Int) (b : Bool) (hb : isPlaceB n = b) (w : World) :
    Calls Tryz.prog 99 #[.int .i64 n] w fun e w' => e = .returned (.bool b) ∧ w = w' := by
  rw [← hb]
  exact isPlace_any n w
theorem badDep_any (d : Dep) (g : Nat) (L : Int) (w : World) (hc : w.cell? ⟨g, 0, none⟩ = some (.int .i64 L)) :
    Calls Tryz.prog 123 #[.agg #[.int .i64 d.1, .int .i64 d.2], .pointer (some ⟨g, 0, none⟩)] w fun e w' => e = .returned (.bool (badDepB L d)) ∧ Below w.heap.size w w' := by
  have hb0 : Below w.heap.size w (w.alloc (.cells #[.int .i64 d.1, .int .i64 d.2] 94)) := (Below.refl _ _).alloc (Nat.le_refl _) _
  have hc' := cell_alloc_old (.cells #[.int .i64 d.1, .int .i64 d.2] 94) hc
  cases h1 : withinB d.1 0 L
  · have HV : Hid (badDepB L d = true) := by simp [Hid, badDepB, h1]
    go_enter Tryz.func123, Tryz.ntmps123
    go_wp2_with (go_at_call 41; refine (within_val _ _ _ _ h1 _).mono ?_; rintro e w' ⟨rfl, rfl⟩)
    go_ret
    exact ⟨by rw [HV.out]; rfl, hb0⟩
  · cases h2 : isPlaceB d.2
    all_goals
      have HV : Hid (badDepB L d = !isPlaceB d.2) := by simp [Hid, badDepB, h1]
      have HP := Lib.hid h2
      go_enter Tryz.func123, Tryz.ntmps123
      go_wp2_with (first | (go_at_call 41; refine (within_val _ _ _ _ h1 _).mono ?_; rintro e w' ⟨rfl, rfl⟩) | (go_at_call 99; refine (isPlace_val _ _ h2 _).mono ?_; rintro e w' ⟨rfl, rfl⟩))
      go_ret
      exact ⟨by rw [HV.out, HP.out]; rfl, hb0⟩
/-- slices.IndexFunc at depots -/
theorem IndexFunc_159 (A : Option Addr) (n c B g : Nat) (L : Int) (l : List Dep) (w : World) (hn : n ≤ 1000000000) (hl : l.length = n) (h : Rd w B A (depCells l)) (hB : B ≤ w.heap.size) (hc : w.cell? ⟨g, 0, none⟩ = some (.int .i64 L)) :
    Calls Tryz.prog 155 #[.slice A n c, .func (.func 123) #[] #[.pointer (some ⟨g, 0, none⟩)]] w fun e w' => e = .returned (.int .i64 (idxGo (badDepB L) l 0)) ∧ Below w.heap.size w w' := by
  have HL := Lib.hid hl; clear hl
  go_enter Tryz.func155, Tryz.ntmps155
  go_wp2
  go_loopw [5, 8] (fun _ i wr => ∃ k : Nat, k ≤ n ∧ i = .int .i64 k ∧ idxGo (badDepB L) (l.drop k) k = idxGo (badDepB L) l 0 ∧ Below w.heap.size w wr) (fun _ i _ => n - (intOf i).toNat)
  case atStart => exact ⟨0, Nat.zero_le _, rfl, rfl, Below.refl _ _⟩
  case round =>
    obtain ⟨k, hk, rfl, he, hb⟩ := hrel
    have HE := Lib.hid he; clear he
    by_cases hlt : k < n
    · have hkl : k < l.length := by rw [HL.out]; exact hlt
      obtain ⟨z0, z1⟩ := depCells_at l k (l[k]?.getD (0, 0)) (by simp [hkl])
      obtain ⟨b, off, rfl, _, e0, e1⟩ := (h.below (hb.mono hB)).at2 z0 z1
      have HS := Lib.hid (drop_at l (0, 0) k hkl)
      have hcr := kept hb hc
      clear hkl z0 z1
      generalize l[k]?.getD (0, 0) = d at *
      have C := badDep_any d g L wr hcr
      cases hz : badDepB L d
      · rw [hz] at C
        have HZ := Lib.hid hz
        have HB := Lib.hid hb
        have hsz := hb.size
        clear hz hb
        go_wp2_with (go_at_call 123; refine C.mono ?_; rintro e w1 ⟨rfl, hb1⟩)
        go_roundw
        case rel => exact ⟨k + 1, by omega, by go_num, by rw [← HE.out, HS.out, idxGo]; simp [HZ.out], HB.out.trans (hb1.mono hsz)⟩
        case measure => simp [intOf]; omega
      · rw [hz] at C
        have HZ := Lib.hid hz
        have HB := Lib.hid hb
        have hsz := hb.size
        clear hz hb
        go_wp2_with (go_at_call 123; refine C.mono ?_; rintro e w1 ⟨rfl, hb1⟩)
        go_ret
        exact ⟨by rw [← HE.out, HS.out, idxGo, HZ.out]; rfl, HB.out.trans (hb1.mono hsz)⟩
    · go_wp2
      go_ret
      have : l.drop k = [] := by rw [List.drop_eq_nil_iff]; rw [HL.out]; omega
      exact ⟨by rw [← HE.out, this]; rfl, hb⟩
theorem ContainsFunc_159 (A : Option Addr) (n c B g : Nat) (L : Int) (l : List Dep) (w : World) (hn : n ≤ 1000000000) (hl : l.length = n) (h : Rd w B A (depCells l)) (hB : B ≤ w.heap.size) (hc : w.cell? ⟨g, 0, none⟩ = some (.int .i64 L)) :
    Calls Tryz.prog 122 #[.slice A n c, .func (.func 123) #[] #[.pointer (some ⟨g, 0, none⟩)]] w fun e w' => e = .returned (.bool (l.any (badDepB L))) ∧ Below w.heap.size w w' := by
  have C := IndexFunc_159 A n c B g L l w hn hl h hB hc
  clear h
  go_enter Tryz.func122, Tryz.ntmps122
  go_wp2_with (go_at_call 155; refine C.mono ?_; rintro e w1 ⟨rfl, hb1⟩)
  go_ret
  exact ⟨by rw [← idxGo_nonneg _ l 0]; rfl, hb1⟩
end Go.Proofs.YtmcjnfghlpnghaaGreatDoor
