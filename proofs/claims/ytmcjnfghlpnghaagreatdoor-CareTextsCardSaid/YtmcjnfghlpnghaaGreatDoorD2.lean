/- The reference: in place, open, lone, same. -/
import Derived.Test.YtmcjnfghlpnghaaGreatDoorD1
import Derived.Deep.Cut
namespace Go.Proofs.YtmcjnfghlpnghaaGreatDoor
open Go.RowKit
theorem InPlace_any (D T S p : Int) (w : World) (hp : 0 ≤ p ∧ p ≤ 1000000000) (hT : 0 ≤ T ∧ T ≤ 1000000000) :
    Calls Tryz.prog 66 #[.agg #[.int .i64 D, .int .i64 T, .int .i64 S], .int .i64 p] w fun e w' => e = .returned (.bool (inPlaceB T S p)) ∧ Below w.heap.size w w' := by
  obtain ⟨hp1, hp2⟩ := hp
  obtain ⟨hT1, hT2⟩ := hT
  go_enter Tryz.func66, Tryz.ntmps66
  go_upto_region 1 with (fail)
  have c1 : (w.alloc (.cells #[.int .i64 D, .int .i64 T, .int .i64 S] 40)).cell? ⟨w.heap.size, 1, none⟩ = some (.int .i64 T) := by simp
  have c2 : (w.alloc (.cells #[.int .i64 D, .int .i64 T, .int .i64 S] 40)).cell? ⟨w.heap.size, 2, none⟩ = some (.int .i64 S) := by simp
  have hb0 : Below w.heap.size w (w.alloc (.cells #[.int .i64 D, .int .i64 T, .int .i64 S] 40)) := (Below.refl _ _).alloc (Nat.le_refl _) _
  have hs0 : w.heap.size ≤ (w.alloc (.cells #[.int .i64 D, .int .i64 T, .int .i64 S] 40)).heap.size := by simp
  generalize w.alloc (.cells #[.int .i64 D, .int .i64 T, .int .i64 S] 40) = w0 at *
  have HW : Hid (w.heap.size = w.heap.size) := rfl
  have x1 := fun x : Xt w0 => x.cell c1
  have x2 := fun x : Xt w0 => x.cell c2
  refine wp_region_xt (by kernel_rfl) (by kernel_rfl) ?_
  repeat (go_big_quiet_step ((go_at_call 96; exact Xt.calls_same (Size_any _ (by omega) _))))
  refine wpQuiet_nil ?_
  intro w1 hx
  have hb1 := Xt.below hx
  clear hx x1 x2
  have hb := hb0.trans (hb1.mono hs0)
  go_wp2
  go_ret
  exact ⟨rfl, hb⟩
theorem anyOpen_any (A : Option Addr) (n c B : Nat) (l : List Bool) (w : World) (hn : n ≤ 1000000000) (hl : l.length = n) (h : Rd w B A (l.map .bool)) :
    Calls Tryz.prog 65 #[.slice A n c] w fun e w' => e = .returned (.bool (hasB l true)) ∧ w = w' := by
  have HL := Lib.hid hl; clear hl
  go_enter Tryz.func65, Tryz.ntmps65
  go_wp2
  go_loop [3] (fun i => ∃ k : Nat, k ≤ n ∧ i = .int .i64 k ∧ hasB (l.drop k) true = hasB l true) (fun i => n - (intOf i).toNat)
  case atStart => exact ⟨0, Nat.zero_le _, rfl, rfl⟩
  case round =>
    obtain ⟨k, hk, rfl, he⟩ := hrel
    have HE := Lib.hid he; clear he
    by_cases hlt : k < n
    · have hkl : k < l.length := by rw [HL.out]; exact hlt
      obtain ⟨b, off, rfl, _, hc⟩ := h.at_ (k := k) (u := .bool (l[k]?.getD false)) (by simp [hkl])
      have HS := Lib.hid (drop_at l false k hkl)
      clear hkl
      cases hz : l[k]?.getD false
      · have HZ := Lib.hid hz
        rw [hz] at hc
        clear hz
        go_wp2
        go_round
        case rel => exact ⟨k + 1, by omega, by go_num, by rw [← HE.out, HS.out]; simp [hasB, HZ.out]⟩
        case measure => simp [intOf]; omega
      · have HZ := Lib.hid hz
        rw [hz] at hc
        clear hz
        go_wp2
        go_ret
        exact ⟨by rw [← HE.out, HS.out]; simp [hasB, HZ.out], rfl⟩
    · go_wp2
      go_ret
      have : l.drop k = [] := by rw [List.drop_eq_nil_iff]; rw [HL.out]; omega
      exact ⟨by rw [← HE.out, this]; rfl, rfl⟩
def eqGo : List Bool → List Bool → Bool
  | a :: l, b :: m => (a == b) && eqGo l m
  | [], [] => true
  | [], _ :: _ => false
  | _ :: _, [] => false
theorem eqGo_iff : ∀ (l m : List Bool), eqGo l m = true ↔ l = m
  | [], [] => by simp [eqGo]
  | [], _ :: _ => by simp [eqGo]
  | _ :: _, [] => by simp [eqGo]
  | a :: l, b :: m => by simp [eqGo, eqGo_iff l m]
theorem eqGo_len {l m : List Bool} (h : l.length ≠ m.length) : eqGo l m = false := by
  cases hc : eqGo l m
  · rfl
  · rw [(eqGo_iff l m).1 hc] at h
    exact absurd rfl h
theorem sameBools_any (A A' : Option Addr) (n c n' c' B : Nat) (l m : List Bool) (w : World) (hn : n ≤ 1000000000) (hn' : n' ≤ 1000000000) (hl : l.length = n) (hm : m.length = n') (h : Rd w B A (l.map .bool)) (h' : Rd w B A' (m.map .bool)) (hB : B ≤ w.heap.size) :
    Calls Tryz.prog 64 #[.slice A n c, .slice A' n' c'] w fun e w' => e = .returned (.bool (eqGo l m)) ∧ Below w.heap.size w w' := by
  have HL := Lib.hid hl
  have HM := Lib.hid hm
  by_cases hd : n = n'
  · obtain rfl : n = n' := hd
    clear hl hm
    go_enter Tryz.func64, Tryz.ntmps64
    go_wp2
    go_loopw [5] (fun i wr => ∃ k : Nat, k ≤ n ∧ i = .int .i64 k ∧ eqGo (l.drop k) (m.drop k) = eqGo l m ∧ Below w.heap.size w wr) (fun i _ => n - (intOf i).toNat)
    case atStart => exact ⟨0, Nat.zero_le _, rfl, rfl, Below.refl _ _⟩
    case round =>
      obtain ⟨k, hk, rfl, he, hb⟩ := hrel
      have HE := Lib.hid he; clear he
      by_cases hlt : k < n
      · have hkl : k < l.length := by rw [HL.out]; exact hlt
        have hkm : k < m.length := by rw [HM.out]; exact hlt
        obtain ⟨b, off, rfl, _, hc⟩ := (h.below (hb.mono hB)).at_ (k := k) (u := .bool (l[k]?.getD false)) (by simp [hkl])
        obtain ⟨b', off', rfl, _, hc'⟩ := (h'.below (hb.mono hB)).at_ (k := k) (u := .bool (m[k]?.getD false)) (by simp [hkm])
        have HS := Lib.hid (drop_at l false k hkl)
        have HS' := Lib.hid (drop_at m false k hkm)
        clear hkl hkm
        have i0 : (0 : Int) ≤ (k : Int) := by omega
        have i1 : (k : Int) < (n : Int) := by omega
        cases hz : l[k]?.getD false <;> cases hy : m[k]?.getD false
        all_goals
          have HZ := Lib.hid hz
          have HY := Lib.hid hy
          rw [hz] at hc
          rw [hy] at hc'
          clear hz hy
          go_wp2
          have x1 := fun x : Xt wr => x.cell hc
          have x2 := fun x : Xt wr => x.cell hc'
          refine wp_region_xt (by kernel_rfl) (by kernel_rfl) ?_
          repeat (go_big_quiet_step (fail))
          refine wpQuiet_nil ?_
          intro w1 hx
          have hb1 := Xt.below hx
          clear hx x1 x2
          have hbw := hb.trans (hb1.mono hb.size)
          clear hb1 hc hc'
          go_wp2
          first
            | (go_ret
               exact ⟨by rw [← HE.out, HS.out, HS'.out, eqGo, HZ.out, HY.out]; rfl, hbw⟩)
            | (go_roundw
               case rel => exact ⟨k + 1, by omega, by go_num, by rw [← HE.out, HS.out, HS'.out, eqGo, HZ.out, HY.out]; simp, hbw⟩
               case measure => simp [intOf]; omega)
      · go_wp2
        go_ret
        have h1 : l.drop k = [] := by rw [List.drop_eq_nil_iff]; rw [HL.out]; omega
        have h2 : m.drop k = [] := by rw [List.drop_eq_nil_iff]; rw [HM.out]; omega
        exact ⟨by rw [← HE.out, h1, h2]; rfl, hb⟩
  · have hne : ((n : Int) != (n' : Int)) = true := by rw [bne_iff_ne]; omega
    have HQ := Lib.hid (eqGo_len (l := l) (m := m) (by omega))
    clear hl hm hd
    go_enter Tryz.func64, Tryz.ntmps64
    go_wp2
    go_ret
    exact ⟨by rw [HQ.out]; rfl, Below.refl _ _⟩
end Go.Proofs.YtmcjnfghlpnghaaGreatDoor
