/- The reference: lone doors, equal states, the error of an event. -/
import Derived.Test.YtmcjnfghlpnghaaGreatDoorD2
import Derived.Test.YtmcjnfghlpnghaaGreatDoorB2
namespace Go.Proofs.YtmcjnfghlpnghaaGreatDoor
open Go.RowKit
/-- a state as a value -/
def stV (s : Tr) (Ag Ad : Option Addr) (ng nd cg cd : Nat) : Value := .agg #[.bool s.mv, .bool s.al, .int .i64 s.place, .slice Ag ng cg, .slice Ad nd cd]
/-- .. and what its slices read as -/
structure StAt (w : World) (B : Nat) (Ag Ad : Option Addr) (ng nd : Nat) (s : Tr) : Prop where
  lg : s.gates.length = ng
  ld : s.doors.length = nd
  rg : Rd w B Ag (s.gates.map .bool)
  rd : Rd w B Ad (s.doors.map .bool)
  ng1 : ng ≤ 1000000000
  nd1 : nd ≤ 1000000000
theorem StAt.below {w w' : World} {B : Nat} {Ag Ad : Option Addr} {ng nd : Nat} {s : Tr} (h : StAt w B Ag Ad ng nd s) (hb : Below B w w') : StAt w' B Ag Ad ng nd s :=
  ⟨h.lg, h.ld, h.rg.below hb, h.rd.below hb, h.ng1, h.nd1⟩
theorem StAt.mono {w : World} {B B' : Nat} {Ag Ad : Option Addr} {ng nd : Nat} {s : Tr} (h : StAt w B Ag Ad ng nd s) (hb : B ≤ B') : StAt w B' Ag Ad ng nd s :=
  ⟨h.lg, h.ld, h.rg.mono hb, h.rd.mono hb, h.ng1, h.nd1⟩
theorem lone_any (w : World) (B : Nat) (Ag Ad : Option Addr) (ng nd cg cd : Nat) (s : Tr) (h : StAt w B Ag Ad ng nd s) (hg : nd ≤ ng) (hB : B ≤ w.heap.size) :
    Calls Tryz.prog 67 #[stV s Ag Ad ng nd cg cd] w fun e w' => e = .returned (.bool (bareB s)) ∧ Below w.heap.size w w' := by
  have hb0 : Below w.heap.size w (w.alloc (.cells #[.bool s.mv, .bool s.al, .int .i64 s.place, .slice Ag ng cg, .slice Ad nd cd] 52)) := (Below.refl _ _).alloc (Nat.le_refl _) _
  have c3 : (w.alloc (.cells #[.bool s.mv, .bool s.al, .int .i64 s.place, .slice Ag ng cg, .slice Ad nd cd] 52)).cell? ⟨w.heap.size, 3, none⟩ = some (.slice Ag ng cg) := by simp
  have c4 : (w.alloc (.cells #[.bool s.mv, .bool s.al, .int .i64 s.place, .slice Ag ng cg, .slice Ad nd cd] 52)).cell? ⟨w.heap.size, 4, none⟩ = some (.slice Ad nd cd) := by simp
  have h1 := h.below (hb0.mono hB)
  have nd1 := h.nd1
  have ng1 := h.ng1
  have HLG := Lib.hid h.lg
  have HLD := Lib.hid h.ld
  have HS1 := Lib.hid h1
  clear h h1
  unfold stV
  go_enter Tryz.func67, Tryz.ntmps67
  go_wp2
  generalize w.alloc (.cells #[.bool s.mv, .bool s.al, .int .i64 s.place, .slice Ag ng cg, .slice Ad nd cd] 52) = w0 at *
  go_loop [3] (fun i => ∃ k : Nat, k ≤ nd ∧ i = .int .i64 k ∧ bareGo (s.doors.drop k) (s.gates.drop k) = bareB s) (fun i => nd - (intOf i).toNat)
  case atStart => exact ⟨0, Nat.zero_le _, rfl, rfl⟩
  case round =>
    obtain ⟨k, hk, rfl, he⟩ := hrel
    have HE := Lib.hid he; clear he
    by_cases hlt : k < nd
    · have hkd : k < s.doors.length := by rw [HLD.out]; exact hlt
      have hkg : k < s.gates.length := by rw [HLG.out]; omega
      have hlg : k < ng := by omega
      obtain ⟨b, off, rfl, _, hc⟩ := HS1.out.rd.at_ (k := k) (u := .bool (s.doors[k]?.getD false)) (by simp [hkd])
      obtain ⟨b', off', rfl, _, hc'⟩ := HS1.out.rg.at_ (k := k) (u := .bool (s.gates[k]?.getD false)) (by simp [hkg])
      have HS := Lib.hid (drop_at s.doors false k hkd)
      have HG : Hid ((s.gates.drop k).headD false = s.gates[k]?.getD false) := by simp [Hid, List.head?_drop]
      have HT : Hid ((s.gates.drop k).tail = s.gates.drop (k + 1)) := by simp [Hid]
      clear hkd hkg
      cases hz : s.doors[k]?.getD false <;> cases hy : s.gates[k]?.getD false
      all_goals
        have HZ := Lib.hid hz
        have HY := Lib.hid hy
        rw [hz] at hc
        rw [hy] at hc'
        clear hz hy
        go_wp2
        first
          | (go_ret
             exact ⟨by rw [← HE.out, HS.out, bareGo, HG.out, HZ.out, HY.out]; rfl, hb0⟩)
          | (go_round
             case rel => exact ⟨k + 1, by omega, by go_num, by rw [← HE.out, HS.out, bareGo, HG.out, HT.out, HZ.out, HY.out]; simp⟩
             case measure => simp [intOf]; omega)
    · go_wp2
      go_ret
      have : s.doors.drop k = [] := by rw [List.drop_eq_nil_iff]; rw [HLD.out]; omega
      exact ⟨by rw [← HE.out, this]; rfl, hb0⟩
/-- are two states equal -/
def sameB (s t : Tr) : Bool := (s.mv == t.mv) && (s.al == t.al) && (s.place == t.place) && eqGo s.gates t.gates && eqGo s.doors t.doors
theorem cells5 {W : World} {r t : Nat} {a0 a1 a2 a3 a4 : Value} (h : W.heap[r]? = some (.cells #[a0, a1, a2, a3, a4] t (0, 0))) :
    W.cell? ⟨r, 0, none⟩ = some a0 ∧ W.cell? ⟨r, 1, none⟩ = some a1 ∧ W.cell? ⟨r, 2, none⟩ = some a2 ∧ W.cell? ⟨r, 3, none⟩ = some a3 ∧ W.cell? ⟨r, 4, none⟩ = some a4 := by
  refine ⟨?_, ?_, ?_, ?_, ?_⟩ <;> rw [cell_of_row _ _ _ _ _ _ h] <;> rfl
theorem Same_any (w : World) (B : Nat) (Ag Ad Ag' Ad' : Option Addr) (ng nd cg cd ng' nd' cg' cd' : Nat) (s t : Tr) (h : StAt w B Ag Ad ng nd s) (h' : StAt w B Ag' Ad' ng' nd' t) (hB : B ≤ w.heap.size) :
    Calls Tryz.prog 23 #[stV s Ag Ad ng nd cg cd, stV t Ag' Ad' ng' nd' cg' cd'] w fun e w' => e = .returned (.bool (sameB s t)) ∧ Below w.heap.size w w' := by
  have hb0 : Below w.heap.size w ((w.alloc (.cells #[.bool s.mv, .bool s.al, .int .i64 s.place, .slice Ag ng cg, .slice Ad nd cd] 52)).alloc (.cells #[.bool t.mv, .bool t.al, .int .i64 t.place, .slice Ag' ng' cg', .slice Ad' nd' cd'] 52)) :=
    ((Below.refl _ _).alloc (Nat.le_refl _) _).alloc (by simp) _
  have h1 := h.below (hb0.mono hB)
  have h1' := h'.below (hb0.mono hB)
  have HS := Lib.hid h1
  have HS' := Lib.hid h1'
  have hs0 : w.heap.size ≤ ((w.alloc (.cells #[.bool s.mv, .bool s.al, .int .i64 s.place, .slice Ag ng cg, .slice Ad nd cd] 52)).alloc (.cells #[.bool t.mv, .bool t.al, .int .i64 t.place, .slice Ag' ng' cg', .slice Ad' nd' cd'] 52)).heap.size := by simp; omega
  have k1 : ((w.alloc (.cells #[.bool s.mv, .bool s.al, .int .i64 s.place, .slice Ag ng cg, .slice Ad nd cd] 52)).alloc (.cells #[.bool t.mv, .bool t.al, .int .i64 t.place, .slice Ag' ng' cg', .slice Ad' nd' cd'] 52)).heap[w.heap.size]? = some (.cells #[.bool s.mv, .bool s.al, .int .i64 s.place, .slice Ag ng cg, .slice Ad nd cd] 52 (0, 0)) := by
    rw [heapq_alloc, if_neg (by simp), heapq_alloc, if_pos rfl]
  have k2 : ((w.alloc (.cells #[.bool s.mv, .bool s.al, .int .i64 s.place, .slice Ag ng cg, .slice Ad nd cd] 52)).alloc (.cells #[.bool t.mv, .bool t.al, .int .i64 t.place, .slice Ag' ng' cg', .slice Ad' nd' cd'] 52)).heap[w.heap.size + 1]? = some (.cells #[.bool t.mv, .bool t.al, .int .i64 t.place, .slice Ag' ng' cg', .slice Ad' nd' cd'] 52 (0, 0)) := by
    rw [heapq_alloc, if_pos (by simp)]
  obtain ⟨c0, c1, c2, c3, c4⟩ := cells5 k1
  obtain ⟨d0, d1, d2, d3, d4⟩ := cells5 k2
  have ng1 := h.ng1
  have nd1 := h.nd1
  have ng1' := h'.ng1
  have nd1' := h'.nd1
  have HB := Lib.hid hb0
  clear h h' h1 h1' k1 k2 hb0
  unfold stV
  go_enter Tryz.func23, Tryz.ntmps23
  go_upto_region 1 with (fail)
  generalize (w.alloc (.cells #[.bool s.mv, .bool s.al, .int .i64 s.place, .slice Ag ng cg, .slice Ad nd cd] 52)).alloc (.cells #[.bool t.mv, .bool t.al, .int .i64 t.place, .slice Ag' ng' cg', .slice Ad' nd' cd'] 52) = w0 at *
  have hBw : B ≤ w0.heap.size := by omega
  have S1 := sameBools_any Ag Ag' ng cg ng' cg' B s.gates t.gates w0 ng1 ng1' HS.out.lg HS'.out.lg HS.out.rg HS'.out.rg hBw
  have S2 := fun (W : World) (hb : Below w0.heap.size w0 W) => sameBools_any Ad Ad' nd cd nd' cd' B s.doors t.doors W nd1 nd1' HS.out.ld HS'.out.ld (HS.out.rd.below (hb.mono hBw)) (HS'.out.rd.below (hb.mono hBw)) (Nat.le_trans hBw hb.size)
  by_cases e1 : s.mv = t.mv
  · have e1' : (s.mv == t.mv) = true := by simp [e1]
    by_cases e2 : s.al = t.al
    · have e2' : (s.al == t.al) = true := by simp [e2]
      by_cases e3 : s.place = t.place
      · have e3' : (s.place == t.place) = true := by simp [e3]
        cases e4 : eqGo s.gates t.gates
        · have HV : Hid (sameB s t = false) := by simp [Hid, sameB, e1', e2', e3', e4]
          rw [e4] at S1
          clear e1 e2 e3 e4 S2
          go_wp2_with (go_at_call 64; refine S1.mono ?_; rintro e w1 ⟨rfl, hb1⟩)
          go_ret
          exact ⟨by rw [HV.out]; rfl, HB.out.trans (hb1.mono hs0)⟩
        · have HV : Hid (sameB s t = eqGo s.doors t.doors) := by simp [Hid, sameB, e1', e2', e3', e4]
          rw [e4] at S1
          clear e1 e2 e3 e4
          go_wp2_with fail
          refine S1.mono ?_
          rintro e w1 ⟨rfl, hb1⟩
          have S3 := S2 w1 hb1
          have d4' := kept hb1 d4
          have c4' := kept hb1 c4
          have HB1 := Lib.hid hb1
          clear S1 S2 hb1 c0 c1 c2 c3 c4 d0 d1 d2 d3 d4
          go_wp2_with (go_at_call 64; refine S3.mono ?_; rintro e w2 ⟨rfl, hb2⟩)
          go_ret
          exact ⟨by rw [HV.out]; rfl, (HB.out.trans (HB1.out.mono hs0)).trans (hb2.mono (Nat.le_trans hs0 HB1.out.size))⟩
      · have e3' : (s.place == t.place) = false := beq_eq_false_iff_ne.2 e3
        have HV : Hid (sameB s t = false) := by simp [Hid, sameB, e1', e2', e3']
        clear e1 e2 e3 S1 S2
        go_wp2
        go_ret
        exact ⟨by rw [HV.out]; rfl, HB.out⟩
    · have e2' : (s.al == t.al) = false := beq_eq_false_iff_ne.2 e2
      have HV : Hid (sameB s t = false) := by simp [Hid, sameB, e1', e2']
      clear e1 e2 S1 S2
      go_wp2
      go_ret
      exact ⟨by rw [HV.out]; rfl, HB.out⟩
  · have e1' : (s.mv == t.mv) = false := beq_eq_false_iff_ne.2 e1
    have HV : Hid (sameB s t = false) := by simp [Hid, sameB, e1']
    clear e1 S1 S2
    go_wp2
    go_ret
    exact ⟨by rw [HV.out]; rfl, HB.out⟩
end Go.Proofs.YtmcjnfghlpnghaaGreatDoor
