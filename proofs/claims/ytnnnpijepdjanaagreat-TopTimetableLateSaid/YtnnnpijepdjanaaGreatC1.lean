/- The reference's Ints, of equal rows; the place of a text among texts. -/
import Derived.Test.YtnnnpijepdjanaaGreatB15
namespace Go.Proofs.YtnnnpijepdjanaaGreat
open Go.RowKit

theorem intCells_at (l : List Int) (k : Nat) (h : k < l.length) : (intCells l)[k]? = some (.int .i64 (l[k]?.getD 0)) := by simp [intCells, h]
set_option maxHeartbeats 2000000 in
theorem Ints_same (A1 A2 : Option Addr) (n c1 c2 B1 B2 : Nat) (l : List Int) (w : World) (hn : n ≤ 1000000000) (hl : l.length = n) (h1 : Rd w B1 A1 (intCells l)) (h2 : Rd w B2 A2 (intCells l)) (hB1 : B1 ≤ w.heap.size) (hB2 : B2 ≤ w.heap.size) :
    Calls Tryz.prog 17 #[.slice A1 n c1, .slice A2 n c2] w fun e w' => e = .returned (.bool true) ∧ Below w.heap.size w w' := by
  have HL := Lib.hid hl; clear hl
  go_enter Tryz.func17, Tryz.ntmps17
  go_wp2
  go_loopw [5] (fun i wr => ∃ k : Nat, k ≤ n ∧ i = .int .i64 k ∧ Below w.heap.size w wr) (fun i _ => n - (intOf i).toNat)
  case atStart => exact ⟨0, Nat.zero_le _, rfl, Below.refl _ _⟩
  case round =>
    obtain ⟨k, hk, rfl, hb⟩ := hrel
    by_cases hlt : k < n
    · have hkl : k < l.length := by rw [HL.out]; exact hlt
      obtain ⟨b, off, rfl, _, d1⟩ := (h1.below (hb.mono hB1)).at_ (intCells_at l k hkl)
      obtain ⟨b', off', rfl, _, d2⟩ := (h2.below (hb.mono hB2)).at_ (intCells_at l k hkl)
      have HBW := Lib.hid hb
      have hsz := hb.size
      clear hkl hb
      generalize l[k]?.getD 0 = q at *
      have e0 : (q != q) = false := by simp
      go_upto_region 6 with (fail)
      have x0 := fun y : Xt wr => y.cell d1
      have x1 := fun y : Xt wr => y.cell d2
      refine wp_region_xt (by kernel_rfl) (by kernel_rfl) ?_
      repeat (go_big_quiet_step (fail))
      refine wpQuiet_nil ?_
      intro w1 hx
      have hb1 := Xt.below hx
      clear hx x0 x1 d1 d2
      have HBN := Lib.hid (HBW.out.trans (hb1.mono hsz))
      clear hb1
      go_wp2
      go_roundw
      case rel => exact ⟨k + 1, by omega, by go_num, HBN.out⟩
      case measure => simp [intOf]; omega
    · go_wp2
      go_ret
      exact ⟨rfl, hb⟩

/-- the first place of a text, as the reference finds it -/
def numT (l : List ByteArray) (s : ByteArray) : Int := idxGo (fun a => a.toList == s.toList) l 0
set_option maxRecDepth 100000 in
theorem numberOf_any (A : Option Addr) (n c B : Nat) (l : List ByteArray) (s : ByteArray) (w : World) (hn : n ≤ 1000000000) (hl : l.length = n) (h : Rd w B A (strCells l)) :
    Calls Tryz.prog 59 #[.slice A n c, .string s] w fun e w' => e = .returned (.int .i64 (numT l s)) ∧ w = w' := by
  have HL := Lib.hid hl; clear hl
  go_enter Tryz.func59, Tryz.ntmps59
  go_wp2
  go_loop [5] (fun i => ∃ k : Nat, k ≤ n ∧ i = .int .i64 k ∧ idxGo (fun a => a.toList == s.toList) (l.drop k) k = numT l s) (fun i => n - (intOf i).toNat)
  case atStart => exact ⟨0, Nat.zero_le _, rfl, rfl⟩
  case round =>
    obtain ⟨k, hk, rfl, he⟩ := hrel
    have HE := Lib.hid he; clear he
    by_cases hlt : k < n
    · have hkl : k < l.length := by rw [HL.out]; exact hlt
      obtain ⟨b, off, rfl, _, hc⟩ := h.at_ (k := k) (u := .string (l[k]?.getD ⟨#[]⟩)) (by simp [strCells, hkl])
      have HS := Lib.hid (drop_at l ⟨#[]⟩ k hkl)
      clear hkl
      generalize l[k]?.getD ⟨#[]⟩ = x at *
      cases hx : (x.toList == s.toList) with
      | true =>
        have HX := Lib.hid hx
        go_wp2
        go_ret
        exact ⟨by rw [← HE.out, HS.out, idxGo, HX.out]; rfl, rfl⟩
      | false =>
        have HX := Lib.hid hx
        go_wp2
        go_round
        case rel => exact ⟨k + 1, by omega, by go_num, by rw [← HE.out, HS.out, idxGo, HX.out]; rfl⟩
        case measure => simp [intOf]; omega
    · go_wp2
      go_ret
      have : l.drop k = [] := by rw [List.drop_eq_nil_iff]; rw [HL.out]; omega
      exact ⟨by rw [← HE.out, this]; rfl, rfl⟩
end Go.Proofs.YtnnnpijepdjanaaGreat
