/- The reference's leaf functions: within, size, doors, places, kinds; whether two states are equal. -/
import Derived.Test.YtlbgocgocanloaaGreatDoorf4A4
import Derived.Deep.Cut
import Derived.Test.YtlbgocgocanloaaGreatDoorf4B2
namespace Go.Proofs.YtlbgocgocanloaaGreatDoor
open Go.RowKit
theorem Within_any (n lo hi : Int) (w : World) :
    Calls Tryz.prog 19 #[.int .i64 n, .int .i64 lo, .int .i64 hi] w fun e w' => e = .returned (.bool (withinB n lo hi)) ∧ w = w' := by
  by_cases h1 : lo ≤ n <;> by_cases h2 : n ≤ hi
  all_goals
    go_enter Tryz.func19, Tryz.ntmps19
    go_wp2
    go_ret
    exact ⟨by simp [withinB, h1, h2], rfl⟩
theorem Within_val (n lo hi : Int) (b : Bool) (hb : withinB n lo hi = b) (w : World) :
    Calls Tryz.prog 19 #[.int .i64 n, .int .i64 lo, .int .i64 hi] w fun e w' => e = .returned (.bool b) ∧ w = w' := by
  rw [← hb]
  exact Within_any n lo hi w
theorem Size_any (n : Int) (h : -2000000000 ≤ n ∧ n ≤ 2000000000) (w : World) :
    Calls Tryz.prog 96 #[.int .i64 n] w fun e w' => e = .returned (.int .i64 (sizeI n)) ∧ w = w' := by
  obtain ⟨h1, h2⟩ := h
  go_enter Tryz.func96, Tryz.ntmps96
  go_wp2
  all_goals
    go_ret
    refine ⟨?_, rfl⟩
    simp [sizeI]
    omega
theorem PlaceErr_any (n : Int) (w : World) :
    Calls Tryz.prog 57 #[.int .i64 n] w fun e w' => e = .returned (.int .i64 (placeE n)) ∧ w = w' := by
  cases hb : withinB n 0 1000000000
  all_goals
    go_enter Tryz.func57, Tryz.ntmps57
    go_wp2_with (go_at_call 19; refine (Within_val _ _ _ _ hb _).mono ?_; rintro e w' ⟨rfl, rfl⟩)
    go_ret
    exact ⟨by simp [placeE, isPlaceB, hb, unlessE], rfl⟩
theorem DoorsErr_any (d t s : Int) (w : World) :
    Calls Tryz.prog 18 #[.agg #[.int .i64 d, .int .i64 t, .int .i64 s]] w fun e w' => e = .returned (.int .i64 (doorsE d t s)) ∧ Below w.heap.size w w' := by
  have b0 := Below.refl w.heap.size w |>.alloc (Nat.le_refl _) (.cells #[.int .i64 d, .int .i64 t, .int .i64 s] 40)
  cases h1 : withinB d 1 6
  · go_enter Tryz.func18, Tryz.ntmps18
    go_wp2_with (go_at_call 19; refine (Within_val _ _ _ _ h1 _).mono ?_; rintro e w' ⟨rfl, rfl⟩)
    go_ret
    exact ⟨by unfold doorsE; rw [h1]; rfl, b0⟩
  · cases h2 : withinB t 0 1000000000
    · go_enter Tryz.func18, Tryz.ntmps18
      go_wp2_with (go_at_call 19; first | ((with_reducible refine (Within_val d _ _ _ h1 _).mono ?_); rintro e w' ⟨rfl, rfl⟩) | ((with_reducible refine (Within_val t _ _ _ h2 _).mono ?_); rintro e w' ⟨rfl, rfl⟩))
      go_ret
      exact ⟨by unfold doorsE isPlaceB; rw [h1, h2]; rfl, b0⟩
    · cases h3 : withinB s 0 5000
      all_goals
        go_enter Tryz.func18, Tryz.ntmps18
        go_wp2_with (go_at_call 19; first | ((with_reducible refine (Within_val d _ _ _ h1 _).mono ?_); rintro e w' ⟨rfl, rfl⟩) | ((with_reducible refine (Within_val t _ _ _ h2 _).mono ?_); rintro e w' ⟨rfl, rfl⟩) | ((with_reducible refine (Within_val s _ _ _ h3 _).mono ?_); rintro e w' ⟨rfl, rfl⟩))
        go_ret
        exact ⟨by unfold doorsE isPlaceB; rw [h1, h2, h3]; rfl, b0⟩
end Go.Proofs.YtlbgocgocanloaaGreatDoor

/- The reference: in place, open, lone, same. -/
namespace Go.Proofs.YtlbgocgocanloaaGreatDoor
open Go.RowKit
theorem InPlace_any (D T S p : Int) (w : World) (hp : 0 ≤ p ∧ p ≤ 1000000000) (hT : 0 ≤ T ∧ T ≤ 1000000000) :
    Calls Tryz.prog 66 #[.agg #[.int .i64 D, .int .i64 T, .int .i64 S], .int .i64 p] w fun e w' => e = .returned (.bool (inPlaceB T S p)) ∧ Below w.heap.size w w' := by
  obtain ⟨hp1, hp2⟩ := hp
  obtain ⟨hT1, hT2⟩ := hT
  go_enter Tryz.func66, Tryz.ntmps66
  go_upto_region 1 with (fail)
  have c1 : (w.alloc (.cells #[.int .i64 D, .int .i64 T, .int .i64 S] 40)).cell? ⟨w.heap.size, 1, none⟩ = some (.int .i64 T) := by simp
  have c2 : (w.alloc (.cells #[.int .i64 D, .int .i64 T, .int .i64 S] 40)).cell? ⟨w.heap.size, 2, none⟩ = some (.int .i64 S) := by simp
  have hb0 : Below w.heap.size w (w.alloc (.cells #[.int .i64 D, .int .i64 T, .int .i64 S] 40)) := (Below.refl _ _).alloc (Nat.le_refl _) _
  have hs0 : w.heap.size ≤ (w.alloc (.cells #[.int .i64 D, .int .i64 T, .int .i64 S] 40)).heap.size := by simp
  generalize w.alloc (.cells #[.int .i64 D, .int .i64 T, .int .i64 S] 40) = w0 at *
  have HW : Hid (w.heap.size = w.heap.size) := rfl
  have x1 := fun x : Xt w0 => x.cell c1
  have x2 := fun x : Xt w0 => x.cell c2
  refine wp_region_xt (by kernel_rfl) (by kernel_rfl) ?_
  repeat (go_big_quiet_step ((go_at_call 96; exact Xt.calls_same (Size_any _ (by omega) _))))
  refine wpQuiet_nil ?_
  intro w1 hx
  have hb1 := Xt.below hx
  clear hx x1 x2
  have hb := hb0.trans (hb1.mono hs0)
  go_wp2
  go_ret
  exact ⟨rfl, hb⟩
theorem anyOpen_any (A : Option Addr) (n c B : Nat) (l : List Bool) (w : World) (hn : n ≤ 1000000000) (hl : l.length = n) (h : Rd w B A (l.map .bool)) :
    Calls Tryz.prog 65 #[.slice A n c] w fun e w' => e = .returned (.bool (hasB l true)) ∧ w = w' := by
  have HL := Lib.hid hl; clear hl
  go_enter Tryz.func65, Tryz.ntmps65
  go_wp2
  go_loop [3] (fun i => ∃ k : Nat, k ≤ n ∧ i = .int .i64 k ∧ hasB (l.drop k) true = hasB l true) (fun i => n - (intOf i).toNat)
  case atStart => exact ⟨0, Nat.zero_le _, rfl, rfl⟩
  case round =>
    obtain ⟨k, hk, rfl, he⟩ := hrel
    have HE := Lib.hid he; clear he
    by_cases hlt : k < n
    · have hkl : k < l.length := by rw [HL.out]; exact hlt
      obtain ⟨b, off, rfl, _, hc⟩ := h.at_ (k := k) (u := .bool (l[k]?.getD false)) (by simp [hkl])
      have HS := Lib.hid (drop_at l false k hkl)
      clear hkl
      cases hz : l[k]?.getD false
      · have HZ := Lib.hid hz
        rw [hz] at hc
        clear hz
        go_wp2
        go_round
        case rel => exact ⟨k + 1, by omega, by go_num, by rw [← HE.out, HS.out]; simp [hasB, HZ.out]⟩
        case measure => simp [intOf]; omega
      · have HZ := Lib.hid hz
        rw [hz] at hc
        clear hz
        go_wp2
        go_ret
        exact ⟨by rw [← HE.out, HS.out]; simp [hasB, HZ.out], rfl⟩
    · go_wp2
      go_ret
      have : l.drop k = [] := by rw [List.drop_eq_nil_iff]; rw [HL.out]; omega
      exact ⟨by rw [← HE.out, this]; rfl, rfl⟩
def eqGo : List Bool → List Bool → Bool
  | a :: l, b :: m => (a == b) && eqGo l m
  | [], [] => true
  | [], _ :: _ => false
  | _ :: _, [] => false
theorem eqGo_iff : ∀ (l m : List Bool), eqGo l m = true ↔ l = m
  | [], [] => by simp [eqGo]
  | [], _ :: _ => by simp [eqGo]
  | _ :: _, [] => by simp [eqGo]
  | a :: l, b :: m => by simp [eqGo, eqGo_iff l m]
theorem eqGo_len {l m : List Bool} (h : l.length ≠ m.length) : eqGo l m = false := by
  cases hc : eqGo l m
  · rfl
  · rw [(eqGo_iff l m).1 hc] at h
    exact absurd rfl h
theorem sameBools_any (A A' : Option Addr) (n c n' c' B : Nat) (l m : List Bool) (w : World) (hn : n ≤ 1000000000) (hn' : n' ≤ 1000000000) (hl : l.length = n) (hm : m.length = n') (h : Rd w B A (l.map .bool)) (h' : Rd w B A' (m.map .bool)) (hB : B ≤ w.heap.size) :
    Calls Tryz.prog 64 #[.slice A n c, .slice A' n' c'] w fun e w' => e = .returned (.bool (eqGo l m)) ∧ Below w.heap.size w w' := by
  have HL := Lib.hid hl
  have HM := Lib.hid hm
  by_cases hd : n = n'
  · obtain rfl : n = n' := hd
    clear hl hm
    go_enter Tryz.func64, Tryz.ntmps64
    go_wp2
    go_loopw [5] (fun i wr => ∃ k : Nat, k ≤ n ∧ i = .int .i64 k ∧ eqGo (l.drop k) (m.drop k) = eqGo l m ∧ Below w.heap.size w wr) (fun i _ => n - (intOf i).toNat)
    case atStart => exact ⟨0, Nat.zero_le _, rfl, rfl, Below.refl _ _⟩
    case round =>
      obtain ⟨k, hk, rfl, he, hb⟩ := hrel
      have HE := Lib.hid he; clear he
      by_cases hlt : k < n
      · have hkl : k < l.length := by rw [HL.out]; exact hlt
        have hkm : k < m.length := by rw [HM.out]; exact hlt
        obtain ⟨b, off, rfl, _, hc⟩ := (h.below (hb.mono hB)).at_ (k := k) (u := .bool (l[k]?.getD false)) (by simp [hkl])
        obtain ⟨b', off', rfl, _, hc'⟩ := (h'.below (hb.mono hB)).at_ (k := k) (u := .bool (m[k]?.getD false)) (by simp [hkm])
        have HS := Lib.hid (drop_at l false k hkl)
        have HS' := Lib.hid (drop_at m false k hkm)
        clear hkl hkm
        have i0 : (0 : Int) ≤ (k : Int) := by omega
        have i1 : (k : Int) < (n : Int) := by omega
        cases hz : l[k]?.getD false <;> cases hy : m[k]?.getD false
        all_goals
          have HZ := Lib.hid hz
          have HY := Lib.hid hy
          rw [hz] at hc
          rw [hy] at hc'
          clear hz hy
          go_wp2
          have x1 := fun x : Xt wr => x.cell hc
          have x2 := fun x : Xt wr => x.cell hc'
          refine wp_region_xt (by kernel_rfl) (by kernel_rfl) ?_
          repeat (go_big_quiet_step (fail))
          refine wpQuiet_nil ?_
          intro w1 hx
          have hb1 := Xt.below hx
          clear hx x1 x2
          have hbw := hb.trans (hb1.mono hb.size)
          clear hb1 hc hc'
          go_wp2
          first
            | (go_ret
               exact ⟨by rw [← HE.out, HS.out, HS'.out, eqGo, HZ.out, HY.out]; rfl, hbw⟩)
            | (go_roundw
               case rel => exact ⟨k + 1, by omega, by go_num, by rw [← HE.out, HS.out, HS'.out, eqGo, HZ.out, HY.out]; simp, hbw⟩
               case measure => simp [intOf]; omega)
      · go_wp2
        go_ret
        have h1 : l.drop k = [] := by rw [List.drop_eq_nil_iff]; rw [HL.out]; omega
        have h2 : m.drop k = [] := by rw [List.drop_eq_nil_iff]; rw [HM.out]; omega
        exact ⟨by rw [← HE.out, h1, h2]; rfl, hb⟩
  · have hne : ((n : Int) != (n' : Int)) = true := by rw [bne_iff_ne]; omega
    have HQ := Lib.hid (eqGo_len (l := l) (m := m) (by omega))
    clear hl hm hd
    go_enter Tryz.func64, Tryz.ntmps64
    go_wp2
    go_ret
    exact ⟨by rw [HQ.out]; rfl, Below.refl _ _⟩
end Go.Proofs.YtlbgocgocanloaaGreatDoor

/- The reference: lone doors, equal states, the error of an event. -/
namespace Go.Proofs.YtlbgocgocanloaaGreatDoor
open Go.RowKit
/-- a state as a value -/
def stV (s : Tr) (Ag Ad : Option Addr) (ng nd cg cd : Nat) : Value := .agg #[.bool s.mv, .bool s.al, .int .i64 s.place, .slice Ag ng cg, .slice Ad nd cd]
/-- .. and what its slices read as -/
structure StAt (w : World) (B : Nat) (Ag Ad : Option Addr) (ng nd : Nat) (s : Tr) : Prop where
  lg : s.gates.length = ng
  ld : s.doors.length = nd
  rg : Rd w B Ag (s.gates.map .bool)
  rd : Rd w B Ad (s.doors.map .bool)
  ng1 : ng ≤ 1000000000
  nd1 : nd ≤ 1000000000
theorem StAt.below {w w' : World} {B : Nat} {Ag Ad : Option Addr} {ng nd : Nat} {s : Tr} (h : StAt w B Ag Ad ng nd s) (hb : Below B w w') : StAt w' B Ag Ad ng nd s :=
  ⟨h.lg, h.ld, h.rg.below hb, h.rd.below hb, h.ng1, h.nd1⟩
theorem StAt.mono {w : World} {B B' : Nat} {Ag Ad : Option Addr} {ng nd : Nat} {s : Tr} (h : StAt w B Ag Ad ng nd s) (hb : B ≤ B') : StAt w B' Ag Ad ng nd s :=
  ⟨h.lg, h.ld, h.rg.mono hb, h.rd.mono hb, h.ng1, h.nd1⟩
theorem lone_any (w : World) (B : Nat) (Ag Ad : Option Addr) (ng nd cg cd : Nat) (s : Tr) (h : StAt w B Ag Ad ng nd s) (hg : nd ≤ ng) (hB : B ≤ w.heap.size) :
    Calls Tryz.prog 67 #[stV s Ag Ad ng nd cg cd] w fun e w' => e = .returned (.bool (bareB s)) ∧ Below w.heap.size w w' := by
  have hb0 : Below w.heap.size w (w.alloc (.cells #[.bool s.mv, .bool s.al, .int .i64 s.place, .slice Ag ng cg, .slice Ad nd cd] 52)) := (Below.refl _ _).alloc (Nat.le_refl _) _
  have c3 : (w.alloc (.cells #[.bool s.mv, .bool s.al, .int .i64 s.place, .slice Ag ng cg, .slice Ad nd cd] 52)).cell? ⟨w.heap.size, 3, none⟩ = some (.slice Ag ng cg) := by simp
  have c4 : (w.alloc (.cells #[.bool s.mv, .bool s.al, .int .i64 s.place, .slice Ag ng cg, .slice Ad nd cd] 52)).cell? ⟨w.heap.size, 4, none⟩ = some (.slice Ad nd cd) := by simp
  have h1 := h.below (hb0.mono hB)
  have nd1 := h.nd1
  have ng1 := h.ng1
  have HLG := Lib.hid h.lg
  have HLD := Lib.hid h.ld
  have HS1 := Lib.hid h1
  clear h h1
  unfold stV
  go_enter Tryz.func67, Tryz.ntmps67
  go_wp2
  generalize w.alloc (.cells #[.bool s.mv, .bool s.al, .int .i64 s.place, .slice Ag ng cg, .slice Ad nd cd] 52) = w0 at *
  go_loop [3] (fun i => ∃ k : Nat, k ≤ nd ∧ i = .int .i64 k ∧ bareGo (s.doors.drop k) (s.gates.drop k) = bareB s) (fun i => nd - (intOf i).toNat)
  case atStart => exact ⟨0, Nat.zero_le _, rfl, rfl⟩
  case round =>
    obtain ⟨k, hk, rfl, he⟩ := hrel
    have HE := Lib.hid he; clear he
    by_cases hlt : k < nd
    · have hkd : k < s.doors.length := by rw [HLD.out]; exact hlt
      have hkg : k < s.gates.length := by rw [HLG.out]; omega
      have hlg : k < ng := by omega
      obtain ⟨b, off, rfl, _, hc⟩ := HS1.out.rd.at_ (k := k) (u := .bool (s.doors[k]?.getD false)) (by simp [hkd])
      obtain ⟨b', off', rfl, _, hc'⟩ := HS1.out.rg.at_ (k := k) (u := .bool (s.gates[k]?.getD false)) (by simp [hkg])
      have HS := Lib.hid (drop_at s.doors false k hkd)
      have HG : Hid ((s.gates.drop k).headD false = s.gates[k]?.getD false) := by simp [Hid, List.head?_drop]
      have HT : Hid ((s.gates.drop k).tail = s.gates.drop (k + 1)) := by simp [Hid]
      clear hkd hkg
      cases hz : s.doors[k]?.getD false <;> cases hy : s.gates[k]?.getD false
      all_goals
        have HZ := Lib.hid hz
        have HY := Lib.hid hy
        rw [hz] at hc
        rw [hy] at hc'
        clear hz hy
        go_wp2
        first
          | (go_ret
             exact ⟨by rw [← HE.out, HS.out, bareGo, HG.out, HZ.out, HY.out]; rfl, hb0⟩)
          | (go_round
             case rel => exact ⟨k + 1, by omega, by go_num, by rw [← HE.out, HS.out, bareGo, HG.out, HT.out, HZ.out, HY.out]; simp⟩
             case measure => simp [intOf]; omega)
    · go_wp2
      go_ret
      have : s.doors.drop k = [] := by rw [List.drop_eq_nil_iff]; rw [HLD.out]; omega
      exact ⟨by rw [← HE.out, this]; rfl, hb0⟩
/-- are two states equal -/
def sameB (s t : Tr) : Bool := (s.mv == t.mv) && (s.al == t.al) && (s.place == t.place) && eqGo s.gates t.gates && eqGo s.doors t.doors
theorem cells5 {W : World} {r t : Nat} {a0 a1 a2 a3 a4 : Value} (h : W.heap[r]? = some (.cells #[a0, a1, a2, a3, a4] t (0, 0))) :
    W.cell? ⟨r, 0, none⟩ = some a0 ∧ W.cell? ⟨r, 1, none⟩ = some a1 ∧ W.cell? ⟨r, 2, none⟩ = some a2 ∧ W.cell? ⟨r, 3, none⟩ = some a3 ∧ W.cell? ⟨r, 4, none⟩ = some a4 := by
  refine ⟨?_, ?_, ?_, ?_, ?_⟩ <;> rw [cell_of_row _ _ _ _ _ _ h] <;> rfl
theorem Same_any (w : World) (B : Nat) (Ag Ad Ag' Ad' : Option Addr) (ng nd cg cd ng' nd' cg' cd' : Nat) (s t : Tr) (h : StAt w B Ag Ad ng nd s) (h' : StAt w B Ag' Ad' ng' nd' t) (hB : B ≤ w.heap.size) :
    Calls Tryz.prog 23 #[stV s Ag Ad ng nd cg cd, stV t Ag' Ad' ng' nd' cg' cd'] w fun e w' => e = .returned (.bool (sameB s t)) ∧ Below w.heap.size w w' := by
  have hb0 : Below w.heap.size w ((w.alloc (.cells #[.bool s.mv, .bool s.al, .int .i64 s.place, .slice Ag ng cg, .slice Ad nd cd] 52)).alloc (.cells #[.bool t.mv, .bool t.al, .int .i64 t.place, .slice Ag' ng' cg', .slice Ad' nd' cd'] 52)) :=
    ((Below.refl _ _).alloc (Nat.le_refl _) _).alloc (by simp) _
  have h1 := h.below (hb0.mono hB)
  have h1' := h'.below (hb0.mono hB)
  have HS := Lib.hid h1
  have HS' := Lib.hid h1'
  have hs0 : w.heap.size ≤ ((w.alloc (.cells #[.bool s.mv, .bool s.al, .int .i64 s.place, .slice Ag ng cg, .slice Ad nd cd] 52)).alloc (.cells #[.bool t.mv, .bool t.al, .int .i64 t.place, .slice Ag' ng' cg', .slice Ad' nd' cd'] 52)).heap.size := by simp; omega
  have k1 : ((w.alloc (.cells #[.bool s.mv, .bool s.al, .int .i64 s.place, .slice Ag ng cg, .slice Ad nd cd] 52)).alloc (.cells #[.bool t.mv, .bool t.al, .int .i64 t.place, .slice Ag' ng' cg', .slice Ad' nd' cd'] 52)).heap[w.heap.size]? = some (.cells #[.bool s.mv, .bool s.al, .int .i64 s.place, .slice Ag ng cg, .slice Ad nd cd] 52 (0, 0)) := by
    rw [heapq_alloc, if_neg (by simp), heapq_alloc, if_pos rfl]
  have k2 : ((w.alloc (.cells #[.bool s.mv, .bool s.al, .int .i64 s.place, .slice Ag ng cg, .slice Ad nd cd] 52)).alloc (.cells #[.bool t.mv, .bool t.al, .int .i64 t.place, .slice Ag' ng' cg', .slice Ad' nd' cd'] 52)).heap[w.heap.size + 1]? = some (.cells #[.bool t.mv, .bool t.al, .int .i64 t.place, .slice Ag' ng' cg', .slice Ad' nd' cd'] 52 (0, 0)) := by
    rw [heapq_alloc, if_pos (by simp)]
  obtain ⟨c0, c1, c2, c3, c4⟩ := cells5 k1
  obtain ⟨d0, d1, d2, d3, d4⟩ := cells5 k2
  have ng1 := h.ng1
  have nd1 := h.nd1
  have ng1' := h'.ng1
  have nd1' := h'.nd1
  have HB := Lib.hid hb0
  clear h h' h1 h1' k1 k2 hb0
  unfold stV
  go_enter Tryz.func23, Tryz.ntmps23
  go_upto_region 1 with (fail)
  generalize (w.alloc (.cells #[.bool s.mv, .bool s.al, .int .i64 s.place, .slice Ag ng cg, .slice Ad nd cd] 52)).alloc (.cells #[.bool t.mv, .bool t.al, .int .i64 t.place, .slice Ag' ng' cg', .slice Ad' nd' cd'] 52) = w0 at *
  have hBw : B ≤ w0.heap.size := by omega
  have S1 := sameBools_any Ag Ag' ng cg ng' cg' B s.gates t.gates w0 ng1 ng1' HS.out.lg HS'.out.lg HS.out.rg HS'.out.rg hBw
  have S2 := fun (W : World) (hb : Below w0.heap.size w0 W) => sameBools_any Ad Ad' nd cd nd' cd' B s.doors t.doors W nd1 nd1' HS.out.ld HS'.out.ld (HS.out.rd.below (hb.mono hBw)) (HS'.out.rd.below (hb.mono hBw)) (Nat.le_trans hBw hb.size)
  by_cases e1 : s.mv = t.mv
  · have e1' : (s.mv == t.mv) = true := by simp [e1]
    by_cases e2 : s.al = t.al
    · have e2' : (s.al == t.al) = true := by simp [e2]
      by_cases e3 : s.place = t.place
      · have e3' : (s.place == t.place) = true := by simp [e3]
        cases e4 : eqGo s.gates t.gates
        · have HV : Hid (sameB s t = false) := by simp [Hid, sameB, e1', e2', e3', e4]
          rw [e4] at S1
          clear e1 e2 e3 e4 S2
          go_wp2_with (go_at_call 64; refine S1.mono ?_; rintro e w1 ⟨rfl, hb1⟩)
          go_ret
          exact ⟨by rw [HV.out]; rfl, HB.out.trans (hb1.mono hs0)⟩
        · have HV : Hid (sameB s t = eqGo s.doors t.doors) := by simp [Hid, sameB, e1', e2', e3', e4]
          rw [e4] at S1
          clear e1 e2 e3 e4
          go_wp2_with fail
          refine S1.mono ?_
          rintro e w1 ⟨rfl, hb1⟩
          have S3 := S2 w1 hb1
          have d4' := kept hb1 d4
          have c4' := kept hb1 c4
          have HB1 := Lib.hid hb1
          clear S1 S2 hb1 c0 c1 c2 c3 c4 d0 d1 d2 d3 d4
          go_wp2_with (go_at_call 64; refine S3.mono ?_; rintro e w2 ⟨rfl, hb2⟩)
          go_ret
          exact ⟨by rw [HV.out]; rfl, (HB.out.trans (HB1.out.mono hs0)).trans (hb2.mono (Nat.le_trans hs0 HB1.out.size))⟩
      · have e3' : (s.place == t.place) = false := beq_eq_false_iff_ne.2 e3
        have HV : Hid (sameB s t = false) := by simp [Hid, sameB, e1', e2', e3']
        clear e1 e2 e3 S1 S2
        go_wp2
        go_ret
        exact ⟨by rw [HV.out]; rfl, HB.out⟩
    · have e2' : (s.al == t.al) = false := beq_eq_false_iff_ne.2 e2
      have HV : Hid (sameB s t = false) := by simp [Hid, sameB, e1', e2']
      clear e1 e2 S1 S2
      go_wp2
      go_ret
      exact ⟨by rw [HV.out]; rfl, HB.out⟩
  · have e1' : (s.mv == t.mv) = false := beq_eq_false_iff_ne.2 e1
    have HV : Hid (sameB s t = false) := by simp [Hid, sameB, e1']
    clear e1 S1 S2
    go_wp2
    go_ret
    exact ⟨by rw [HV.out]; rfl, HB.out⟩
end Go.Proofs.YtlbgocgocanloaaGreatDoor

/- The reference: what kinds of events use; the error of an event. -/
namespace Go.Proofs.YtlbgocgocanloaaGreatDoor
open Go.RowKit
theorem placeE_cases (n : Int) : isPlaceB n = true ∧ placeE n = 0 ∨ isPlaceB n = false ∧ placeE n = 2 := by
  unfold placeE
  cases isPlaceB n <;> simp [unlessE]
end Go.Proofs.YtlbgocgocanloaaGreatDoor
