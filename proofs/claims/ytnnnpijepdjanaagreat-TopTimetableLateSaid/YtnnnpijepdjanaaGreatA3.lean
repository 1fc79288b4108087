/- Texts in lists. -/
import Derived.Test.YtnnnpijepdjanaaGreatA2
namespace Go.Proofs.YtnnnpijepdjanaaGreat
open Go.RowKit

def strCells (l : List ByteArray) : List Value := l.map .string
/-- is a text among those -/
def hasT (l : List ByteArray) (s : ByteArray) : Bool := l.any fun a => a.toList == s.toList
theorem hasT_cons (a s : ByteArray) (l : List ByteArray) : hasT (a :: l) s = ((a.toList == s.toList) || hasT l s) := by simp [hasT]

set_option maxRecDepth 100000 in
theorem HasText_any (A : Option Addr) (n c B : Nat) (l : List ByteArray) (s : ByteArray) (w : World) (hn : n ≤ 1000000000) (hl : l.length = n) (h : Rd w B A (strCells l)) :
    Calls Tryz.prog 40 #[.slice A n c, .string s] w fun e w' => e = .returned (.bool (hasT l s)) ∧ w = w' := by
  have HL := Lib.hid hl; clear hl
  go_enter Tryz.func40, Tryz.ntmps40
  go_wp2
  go_loop [5] (fun i => ∃ k : Nat, k ≤ n ∧ i = .int .i64 k ∧ hasT (l.drop k) s = hasT l s) (fun i => n - (intOf i).toNat)
  case atStart => exact ⟨0, Nat.zero_le _, rfl, rfl⟩
  case round =>
    obtain ⟨k, hk, rfl, he⟩ := hrel
    have HE := Lib.hid he; clear he
    by_cases hlt : k < n
    · have hkl : k < l.length := by rw [HL.out]; exact hlt
      obtain ⟨b, off, rfl, _, hc⟩ := h.at_ (k := k) (u := .string (l[k]?.getD ⟨#[]⟩)) (by simp [strCells, hkl])
      have HS := Lib.hid (drop_at l ⟨#[]⟩ k hkl)
      clear hkl
      generalize l[k]?.getD ⟨#[]⟩ = x at *
      cases hx : (x.toList == s.toList) with
      | true =>
        have HX := Lib.hid hx
        go_wp2
        go_ret
        exact ⟨by rw [← HE.out, HS.out, hasT_cons, HX.out]; rfl, rfl⟩
      | false =>
        have HX := Lib.hid hx
        go_wp2
        go_round
        case rel => exact ⟨k + 1, by omega, by go_num, by rw [← HE.out, HS.out, hasT_cons, HX.out, Bool.false_or]⟩
        case measure => simp [intOf]; omega
    · go_wp2
      go_ret
      have : l.drop k = [] := by rw [List.drop_eq_nil_iff]; rw [HL.out]; omega
      exact ⟨by rw [← HE.out, this]; rfl, rfl⟩

/-- the first place of a text -/
def idxT (l : List ByteArray) (s : ByteArray) : Int := idxGo (fun a => s.toList == a.toList) l 0
theorem beqT (a b : ByteArray) : (a.toList == b.toList) = (b.toList == a.toList) := by
  cases h : (b.toList == a.toList)
  · exact beq_eq_false_iff_ne.2 fun e => beq_eq_false_iff_ne.1 h e.symm
  · exact beq_iff_eq.2 (beq_iff_eq.1 h).symm
theorem idxT_has (l : List ByteArray) (s : ByteArray) : decide (0 ≤ idxT l s) = hasT l s := by
  rw [idxT, idxGo_nonneg, hasT]
  congr 1
  funext a
  exact beqT s a

set_option maxRecDepth 100000 in
theorem IndexT_any (A : Option Addr) (n c B : Nat) (l : List ByteArray) (s : ByteArray) (w : World) (hn : n ≤ 1000000000) (hl : l.length = n) (h : Rd w B A (strCells l)) :
    Calls Tryz.prog 99 #[.slice A n c, .string s] w fun e w' => e = .returned (.int .i64 (idxT l s)) ∧ w = w' := by
  have HL := Lib.hid hl; clear hl
  go_enter Tryz.func99, Tryz.ntmps99
  go_wp2
  go_loop [5, 8] (fun _ i => ∃ k : Nat, k ≤ n ∧ i = .int .i64 k ∧ idxGo (fun a => s.toList == a.toList) (l.drop k) k = idxT l s) (fun _ i => n - (intOf i).toNat)
  case atStart => exact ⟨0, Nat.zero_le _, rfl, rfl⟩
  case round =>
    obtain ⟨k, hk, rfl, he⟩ := hrel
    have HE := Lib.hid he; clear he
    by_cases hlt : k < n
    · have hkl : k < l.length := by rw [HL.out]; exact hlt
      obtain ⟨b, off, rfl, _, hc⟩ := h.at_ (k := k) (u := .string (l[k]?.getD ⟨#[]⟩)) (by simp [strCells, hkl])
      have HS := Lib.hid (drop_at l ⟨#[]⟩ k hkl)
      clear hkl
      generalize l[k]?.getD ⟨#[]⟩ = x at *
      cases hx : (s.toList == x.toList) with
      | true =>
        have HX := Lib.hid hx
        go_wp2
        go_ret
        exact ⟨by rw [← HE.out, HS.out, idxGo, HX.out]; rfl, rfl⟩
      | false =>
        have HX := Lib.hid hx
        go_wp2
        go_round
        case rel => exact ⟨k + 1, by omega, by go_num, by rw [← HE.out, HS.out, idxGo, HX.out]; rfl⟩
        case measure => simp [intOf]; omega
    · go_wp2
      go_ret
      have : l.drop k = [] := by rw [List.drop_eq_nil_iff]; rw [HL.out]; omega
      exact ⟨by rw [← HE.out, this]; rfl, rfl⟩
theorem ContainsT_any (A : Option Addr) (n c B : Nat) (l : List ByteArray) (s : ByteArray) (w : World) (hn : n ≤ 1000000000) (hl : l.length = n) (h : Rd w B A (strCells l)) :
    Calls Tryz.prog 73 #[.slice A n c, .string s] w fun e w' => e = .returned (.bool (hasT l s)) ∧ w = w' := by
  have HV := Lib.hid (idxT_has l s)
  go_enter Tryz.func73, Tryz.ntmps73
  go_wp2_with (go_at_call 99; refine (IndexT_any A n c B l s _ hn hl h).mono ?_; rintro e w' ⟨rfl, rfl⟩)
  go_ret
  exact ⟨by rw [← HV.out]; rfl, rfl⟩
end Go.Proofs.YtnnnpijepdjanaaGreat
