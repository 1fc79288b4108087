/- The number that a text of digits tells. -/
import Derived.Test.YtnnnpijepdjanaaGreatC1
namespace Go.Proofs.YtnnnpijepdjanaaGreat
open Go.RowKit

def digGo (v : Nat) : List UInt8 → Nat
  | [] => v
  | c :: l => digGo (10 * v + (c.toNat - 48)) l
/-- the number that digits tell -/
def digV (s : ByteArray) : Nat := digGo 0 s.data.toList
/-- digits only, one to six, no naught ahead -/
def digB (s : ByteArray) : Bool := decide (1 ≤ s.size) && decide (s.size ≤ 6) && s.data.toList.all (fun c => decide (48 ≤ c.toNat) && decide (c.toNat ≤ 57)) && (decide (s.size = 1) || decide ((s.data.toList.getD 0 0).toNat ≠ 48))
theorem run_index90 (s : ByteArray) (h : 0 < s.size) (W : World) : Sem.run Tryz.prog (Instr.index 9 (.string s) (.int .i64 0)) W = .ok (.int .u8 ((s.data.toList.getD 0 0).toNat : Int)) W := run_index9 s 0 h W
set_option maxRecDepth 100000 in
set_option maxHeartbeats 8000000 in
theorem Number_any (s : ByteArray) (h : digB s = true) (w : World) : Calls Tryz.prog 103 #[.string s, .int .i64 6] w fun e w' => e = .returned (.tuple #[.int .i64 (digV s), .bool true]) ∧ w = w' := by
  simp only [digB, Bool.and_eq_true, Bool.or_eq_true, decide_eq_true_eq, List.all_eq_true] at h
  obtain ⟨⟨⟨h1, h6⟩, hd⟩, hz⟩ := h
  have HD := Lib.hid hd
  clear hd
  obtain ⟨tot, htot⟩ : ∃ t, digGo 0 s.data.toList = t := ⟨_, rfl⟩
  have HV : Hid (digV s = tot) := htot
  have HT := Lib.hid htot
  clear htot
  have d0 := run_index90 s h1
  have hc0 : 48 ≤ (s.data.toList.getD 0 0).toNat ∧ (s.data.toList.getD 0 0).toNat ≤ 57 := by
    have hl : 0 < s.data.toList.length := Nat.lt_of_lt_of_eq h1 (by simp)
    rw [List.getD_eq_getElem?_getD, List.getElem?_eq_getElem hl]
    exact HD.out _ (List.getElem_mem hl)
  generalize (s.data.toList.getD 0 0).toNat = c0 at *
  have e1 : ((c0 : Int) == 45) = false := beq_eq_false_iff_ne.2 (by omega)
  have g0 : (0 : Int) < (s.size : Int) := by omega
  have e2 : ((s.size : Int) == 0) = false := beq_eq_false_iff_ne.2 (by omega)
  have e3 : ¬ (6 : Int) < (s.size : Int) := by omega
  obtain ⟨q, hq⟩ : ∃ q, ((c0 : Int) == 48) = q := ⟨_, rfl⟩
  have hqq : q = true → ¬ (1 : Int) < (s.size : Int) := by
    intro hh
    subst hh
    have := beq_iff_eq.1 hq
    rcases hz with hz | hz
    · omega
    · omega
  clear hz hc0
  have HRET : Hid (∀ v : Int, v = tot → (Ending.returned (.tuple #[.int .i64 v, .bool true])) = Ending.returned (.tuple #[.int .i64 (digV s), .bool true])) := by
    intro v hv
    rw [hv, HV.out]
  have HMID : Hid (∀ k v : Nat, k < s.size → v < 10 ^ k → digGo v (s.data.toList.drop k) = tot → ∃ c : Nat, (∀ W : World, Sem.run Tryz.prog (Instr.index 9 (.string s) (.int .i64 (k : Int))) W = .ok (.int .u8 (c : Int)) W) ∧ 48 ≤ c ∧ c ≤ 57 ∧ v ≤ 99999 ∧ 10 * v + (c - 48) < 10 ^ (k + 1) ∧ digGo (10 * v + (c - 48)) (s.data.toList.drop (k + 1)) = tot) := by
    intro k v hk hv hg
    have hkl : k < s.data.toList.length := by simpa using hk
    have hcc : 48 ≤ (s.data.toList.getD k 0).toNat ∧ (s.data.toList.getD k 0).toNat ≤ 57 := by
      rw [List.getD_eq_getElem?_getD, List.getElem?_eq_getElem hkl]
      exact HD.out _ (List.getElem_mem hkl)
    refine ⟨_, run_index9 s k hk, hcc.1, hcc.2, ?_, ?_, ?_⟩
    · have : 10 ^ k ≤ 10 ^ 5 := Nat.pow_le_pow_right (by omega) (by omega)
      omega
    · rw [Nat.pow_succ]
      omega
    · rw [dropB hkl] at hg
      exact hg
  have HLAST : Hid (∀ k v : Nat, ¬ k < s.size → digGo v (s.data.toList.drop k) = tot → v = tot) := by
    intro k v hk hg
    rw [show s.data.toList.drop k = [] from by rw [List.drop_eq_nil_iff]; simp; omega] at hg
    exact hg
  clear HD HV
  generalize (digV s) = dv at *
  go_enter Tryz.func103, Tryz.ntmps103
  cases q with
  | true =>
    have e4 := hqq rfl
    clear hqq
    go_wp2
    go_loop [7, 8] (fun u i => ∃ k v : Nat, k ≤ s.size ∧ i = .int .i64 k ∧ u = .int .i64 v ∧ v < 10 ^ k ∧ digGo v (s.data.toList.drop k) = tot) (fun _ i => s.size - (intOf i).toNat)
    case atStart => exact ⟨0, 0, Nat.zero_le _, rfl, rfl, by decide, HT.out⟩
    case round =>
      clear d0
      obtain ⟨k, v, hk, rfl, rfl, hv, hg⟩ := hrel
      by_cases hlt : k < s.size
      · obtain ⟨c, d1, hc1, hc2, hv5, hv6, hg2⟩ := HMID.out k v hlt hv hg
        have HV6 := Lib.hid hv6
        have HG2 := Lib.hid hg2
        clear hg hv hv6 hg2
        have hlti : (k : Int) < (s.size : Int) := by omega
        have q1 : ¬ (c : Int) < 48 := by omega
        have q2 : ¬ (57 : Int) < (c : Int) := by omega
        go_wp2
        go_round
        case rel => exact ⟨k + 1, 10 * v + (c - 48), by omega, by go_num, by go_num, HV6.out, HG2.out⟩
        case measure => simp [intOf]; omega
      · have HG := Lib.hid hg
        clear hg hv
        have hlti : ¬ (k : Int) < (s.size : Int) := by omega
        go_wp2
        go_ret2
        exact ⟨HRET.out _ (by rw [HLAST.out k v hlt HG.out]), rfl⟩
  | false =>
    clear hqq
    go_wp2
    go_loop [7, 8] (fun u i => ∃ k v : Nat, k ≤ s.size ∧ i = .int .i64 k ∧ u = .int .i64 v ∧ v < 10 ^ k ∧ digGo v (s.data.toList.drop k) = tot) (fun _ i => s.size - (intOf i).toNat)
    case atStart => exact ⟨0, 0, Nat.zero_le _, rfl, rfl, by decide, HT.out⟩
    case round =>
      clear d0
      obtain ⟨k, v, hk, rfl, rfl, hv, hg⟩ := hrel
      by_cases hlt : k < s.size
      · obtain ⟨c, d1, hc1, hc2, hv5, hv6, hg2⟩ := HMID.out k v hlt hv hg
        have HV6 := Lib.hid hv6
        have HG2 := Lib.hid hg2
        clear hg hv hv6 hg2
        have hlti : (k : Int) < (s.size : Int) := by omega
        have q1 : ¬ (c : Int) < 48 := by omega
        have q2 : ¬ (57 : Int) < (c : Int) := by omega
        go_wp2
        go_round
        case rel => exact ⟨k + 1, 10 * v + (c - 48), by omega, by go_num, by go_num, HV6.out, HG2.out⟩
        case measure => simp [intOf]; omega
      · have HG := Lib.hid hg
        clear hg hv
        have hlti : ¬ (k : Int) < (s.size : Int) := by omega
        go_wp2
        go_ret2
        exact ⟨HRET.out _ (by rw [HLAST.out k v hlt HG.out]), rfl⟩
end Go.Proofs.YtnnnpijepdjanaaGreat
