/- Names: both functions. -/
import Derived.Test.YtmcjnfghlpnghaaGreatDoorD4

import Derived.Lib.AtoiErrMem
namespace Go.Proofs.YtmcjnfghlpnghaaGreatDoor
open Go.RowKit
/-- a finding: its beam and its offset -/
abbrev Fnd := Int × Int
/-- may a byte stand at a place of a name -/
def okN (i c : Nat) : Bool := (decide (97 ≤ c) && decide (c ≤ 122) || decide (65 ≤ c) && decide (c ≤ 90)) || !decide (i = 0) && (decide (c = 45) || decide (48 ≤ c) && decide (c ≤ 57))
def nameGo : Nat → List UInt8 → Bool
  | _, [] => true
  | i, b :: l => okN i b.toNat && nameGo (i + 1) l
def nameB (s : ByteArray) : Bool := decide (1 ≤ s.size) && decide (s.size ≤ 12) && nameGo 0 s.data.toList
theorem dropB {l : List UInt8} {k : Nat} (h : k < l.length) : l.drop k = l.getD k 0 :: l.drop (k + 1) := by
  rw [List.drop_eq_getElem_cons h]
  simp [h]
theorem run_index9 (s : ByteArray) (k : Nat) (h : k < s.size) (W : World) : Sem.run Tryz.prog (Instr.index 9 (.string s) (.int .i64 (k : Int))) W = .ok (.int .u8 ((s.data.toList.getD k 0).toNat : Int)) W := by
  rw [run_index_string W 9 s .i64 (k : Int) Tryz.underlying9, dif_pos ⟨by omega, by omega⟩]
  have hk : k < s.data.toList.length := by simpa using h
  rw [List.getD_eq_getElem?_getD, List.getElem?_eq_getElem hk]
  rfl
set_option maxRecDepth 100000 in
set_option maxHeartbeats 8000000 in
theorem refIsName_any (s : ByteArray) (hs9 : s.size ≤ 1000000000) (w : World) : Calls Tryz.prog 58 #[.string s] w fun e w' => e = .returned (.bool (nameB s)) ∧ w = w' := by
  obtain ⟨tot, htot⟩ : ∃ t, nameGo 0 s.data.toList = t := ⟨_, rfl⟩
  by_cases h1 : s.size < 1
  · have HV : Hid (nameB s = false) := by
      rw [Hid, nameB, decide_eq_false (by omega)]
      rfl
    have h1i : (s.size : Int) < 1 := by omega
    go_enter Tryz.func58, Tryz.ntmps58
    go_wp2
    go_ret
    exact ⟨by rw [HV.out]; rfl, rfl⟩
  · by_cases h12 : 12 < s.size
    · have HV : Hid (nameB s = false) := by
        rw [Hid, nameB, decide_eq_true (show 1 ≤ s.size by omega), decide_eq_false (show ¬ s.size ≤ 12 by omega)]
        rfl
      have h1i : ¬ (s.size : Int) < 1 := by omega
      have h12i : (12 : Int) < (s.size : Int) := by omega
      go_enter Tryz.func58, Tryz.ntmps58
      go_wp2
      go_ret
      exact ⟨by rw [HV.out]; rfl, rfl⟩
    · have HV : Hid (nameB s = tot) := by
        rw [Hid, nameB, decide_eq_true (show 1 ≤ s.size by omega), decide_eq_true (show s.size ≤ 12 by omega), htot]
        rfl
      have h1i : ¬ (s.size : Int) < 1 := by omega
      have h12i : ¬ (12 : Int) < (s.size : Int) := by omega
      have HTT := Lib.hid htot
      clear htot
      go_enter Tryz.func58, Tryz.ntmps58
      go_wp2
      go_loop [3] (fun i => ∃ k : Nat, k ≤ s.size ∧ i = .int .i64 k ∧ nameGo k (s.data.toList.drop k) = tot) (fun i => s.size - (intOf i).toNat)
      case atStart => exact ⟨0, Nat.zero_le _, rfl, by rw [List.drop_zero]; exact HTT.out⟩
      case round =>
        obtain ⟨k, hk, rfl, he⟩ := hrel
        have HE := Lib.hid he
        clear he
        by_cases hlt : k < s.size
        · have hkl : k < s.data.toList.length := by simpa using hlt
          have HD := Lib.hid (dropB hkl)
          have hcb : (s.data.toList.getD k 0).toNat ≤ 255 := by have := UInt8.toNat_lt (s.data.toList.getD k 0); omega
          have d0 := run_index9 s k hlt
          have HG : Hid ((okN k (s.data.toList.getD k 0).toNat && nameGo (k + 1) (s.data.toList.drop (k + 1))) = tot) := by
            have := HE.out
            rw [HD.out, nameGo] at this
            exact this
          generalize (s.data.toList.getD k 0).toNat = c at *
          have hlti : (k : Int) < (s.size : Int) := by omega
          clear HE hkl
          have hcs : (c < 45) ∨ (c = 45) ∨ (45 < c ∧ c < 48) ∨ (48 ≤ c ∧ c ≤ 57) ∨ (57 < c ∧ c < 65) ∨ (65 ≤ c ∧ c ≤ 90) ∨ (90 < c ∧ c < 97) ∨ (97 ≤ c ∧ c ≤ 122) ∨ (122 < c) := by omega
          rcases hcs with hcc | hcc | hcc | hcc | hcc | hcc | hcc | hcc | hcc
          · have q0 : ¬ (97 : Int) ≤ (c : Int) := by omega
            have q1 : (c : Int) ≤ 122 := by omega
            have q2 : ¬ (65 : Int) ≤ (c : Int) := by omega
            have q3 : (c : Int) ≤ 90 := by omega
            have q4 : ((c : Int) != 45) = true := by exact bne_iff_ne.2 (by omega)
            have q5 : (c : Int) < 48 := by omega
            have q6 : ¬ (57 : Int) < (c : Int) := by omega
            by_cases hk0 : k = 0
            · have e0 : ((k : Int) == 0) = true := by rw [hk0]; rfl
              have HOK : Hid (okN k c = false) := by rw [Hid, okN, Bool.eq_false_iff]; simp; omega
              clear hcc hk0
              have HF : Hid (tot = false) := by
                have := HG.out
                rw [HOK.out, Bool.false_and] at this
                exact this.symm
              go_wp2
              go_ret
              exact ⟨by rw [HV.out, HF.out]; rfl, rfl⟩
            · have e0 : ((k : Int) == 0) = false := beq_eq_false_iff_ne.2 (by omega)
              have HOK : Hid (okN k c = false) := by rw [Hid, okN, Bool.eq_false_iff]; simp; omega
              clear hcc hk0
              have HF : Hid (tot = false) := by
                have := HG.out
                rw [HOK.out, Bool.false_and] at this
                exact this.symm
              go_wp2
              go_ret
              exact ⟨by rw [HV.out, HF.out]; rfl, rfl⟩
          · have q0 : ¬ (97 : Int) ≤ (c : Int) := by omega
            have q1 : (c : Int) ≤ 122 := by omega
            have q2 : ¬ (65 : Int) ≤ (c : Int) := by omega
            have q3 : (c : Int) ≤ 90 := by omega
            have q4 : ((c : Int) != 45) = false := by rw [hcc]; rfl
            have q5 : (c : Int) < 48 := by omega
            have q6 : ¬ (57 : Int) < (c : Int) := by omega
            by_cases hk0 : k = 0
            · have e0 : ((k : Int) == 0) = true := by rw [hk0]; rfl
              have HOK : Hid (okN k c = false) := by rw [Hid, okN, Bool.eq_false_iff]; simp; omega
              clear hcc hk0
              have HF : Hid (tot = false) := by
                have := HG.out
                rw [HOK.out, Bool.false_and] at this
                exact this.symm
              go_wp2
              go_ret
              exact ⟨by rw [HV.out, HF.out]; rfl, rfl⟩
            · have e0 : ((k : Int) == 0) = false := beq_eq_false_iff_ne.2 (by omega)
              have HOK : Hid (okN k c = true) := by rw [Hid, okN]; simp; omega
              clear hcc hk0
              have HN : Hid (nameGo (k + 1) (s.data.toList.drop (k + 1)) = tot) := by
                have := HG.out
                rw [HOK.out, Bool.true_and] at this
                exact this
              go_wp2
              go_round
              case rel => exact ⟨k + 1, by omega, by go_num, HN.out⟩
              case measure => simp [intOf]; omega
          · have q0 : ¬ (97 : Int) ≤ (c : Int) := by omega
            have q1 : (c : Int) ≤ 122 := by omega
            have q2 : ¬ (65 : Int) ≤ (c : Int) := by omega
            have q3 : (c : Int) ≤ 90 := by omega
            have q4 : ((c : Int) != 45) = true := by exact bne_iff_ne.2 (by omega)
            have q5 : (c : Int) < 48 := by omega
            have q6 : ¬ (57 : Int) < (c : Int) := by omega
            by_cases hk0 : k = 0
            · have e0 : ((k : Int) == 0) = true := by rw [hk0]; rfl
              have HOK : Hid (okN k c = false) := by rw [Hid, okN, Bool.eq_false_iff]; simp; omega
              clear hcc hk0
              have HF : Hid (tot = false) := by
                have := HG.out
                rw [HOK.out, Bool.false_and] at this
                exact this.symm
              go_wp2
              go_ret
              exact ⟨by rw [HV.out, HF.out]; rfl, rfl⟩
            · have e0 : ((k : Int) == 0) = false := beq_eq_false_iff_ne.2 (by omega)
              have HOK : Hid (okN k c = false) := by rw [Hid, okN, Bool.eq_false_iff]; simp; omega
              clear hcc hk0
              have HF : Hid (tot = false) := by
                have := HG.out
                rw [HOK.out, Bool.false_and] at this
                exact this.symm
              go_wp2
              go_ret
              exact ⟨by rw [HV.out, HF.out]; rfl, rfl⟩
          · have q0 : ¬ (97 : Int) ≤ (c : Int) := by omega
            have q1 : (c : Int) ≤ 122 := by omega
            have q2 : ¬ (65 : Int) ≤ (c : Int) := by omega
            have q3 : (c : Int) ≤ 90 := by omega
            have q4 : ((c : Int) != 45) = true := by exact bne_iff_ne.2 (by omega)
            have q5 : ¬ (c : Int) < 48 := by omega
            have q6 : ¬ (57 : Int) < (c : Int) := by omega
            by_cases hk0 : k = 0
            · have e0 : ((k : Int) == 0) = true := by rw [hk0]; rfl
              have HOK : Hid (okN k c = false) := by rw [Hid, okN, Bool.eq_false_iff]; simp; omega
              clear hcc hk0
              have HF : Hid (tot = false) := by
                have := HG.out
                rw [HOK.out, Bool.false_and] at this
                exact this.symm
              go_wp2
              go_ret
              exact ⟨by rw [HV.out, HF.out]; rfl, rfl⟩
            · have e0 : ((k : Int) == 0) = false := beq_eq_false_iff_ne.2 (by omega)
              have HOK : Hid (okN k c = true) := by rw [Hid, okN]; simp; omega
              clear hcc hk0
              have HN : Hid (nameGo (k + 1) (s.data.toList.drop (k + 1)) = tot) := by
                have := HG.out
                rw [HOK.out, Bool.true_and] at this
                exact this
              go_wp2
              go_round
              case rel => exact ⟨k + 1, by omega, by go_num, HN.out⟩
              case measure => simp [intOf]; omega
          · have q0 : ¬ (97 : Int) ≤ (c : Int) := by omega
            have q1 : (c : Int) ≤ 122 := by omega
            have q2 : ¬ (65 : Int) ≤ (c : Int) := by omega
            have q3 : (c : Int) ≤ 90 := by omega
            have q4 : ((c : Int) != 45) = true := by exact bne_iff_ne.2 (by omega)
            have q5 : ¬ (c : Int) < 48 := by omega
            have q6 : (57 : Int) < (c : Int) := by omega
            by_cases hk0 : k = 0
            · have e0 : ((k : Int) == 0) = true := by rw [hk0]; rfl
              have HOK : Hid (okN k c = false) := by rw [Hid, okN, Bool.eq_false_iff]; simp; omega
              clear hcc hk0
              have HF : Hid (tot = false) := by
                have := HG.out
                rw [HOK.out, Bool.false_and] at this
                exact this.symm
              go_wp2
              go_ret
              exact ⟨by rw [HV.out, HF.out]; rfl, rfl⟩
            · have e0 : ((k : Int) == 0) = false := beq_eq_false_iff_ne.2 (by omega)
              have HOK : Hid (okN k c = false) := by rw [Hid, okN, Bool.eq_false_iff]; simp; omega
              clear hcc hk0
              have HF : Hid (tot = false) := by
                have := HG.out
                rw [HOK.out, Bool.false_and] at this
                exact this.symm
              go_wp2
              go_ret
              exact ⟨by rw [HV.out, HF.out]; rfl, rfl⟩
          · have q0 : ¬ (97 : Int) ≤ (c : Int) := by omega
            have q1 : (c : Int) ≤ 122 := by omega
            have q2 : (65 : Int) ≤ (c : Int) := by omega
            have q3 : (c : Int) ≤ 90 := by omega
            have q4 : ((c : Int) != 45) = true := by exact bne_iff_ne.2 (by omega)
            have q5 : ¬ (c : Int) < 48 := by omega
            have q6 : (57 : Int) < (c : Int) := by omega
            have HOK : Hid (okN k c = true) := by rw [Hid, okN]; simp; omega
            clear hcc
            have HN : Hid (nameGo (k + 1) (s.data.toList.drop (k + 1)) = tot) := by
              have := HG.out
              rw [HOK.out, Bool.true_and] at this
              exact this
            go_wp2
            go_round
            case rel => exact ⟨k + 1, by omega, by go_num, HN.out⟩
            case measure => simp [intOf]; omega
          · have q0 : ¬ (97 : Int) ≤ (c : Int) := by omega
            have q1 : (c : Int) ≤ 122 := by omega
            have q2 : (65 : Int) ≤ (c : Int) := by omega
            have q3 : ¬ (c : Int) ≤ 90 := by omega
            have q4 : ((c : Int) != 45) = true := by exact bne_iff_ne.2 (by omega)
            have q5 : ¬ (c : Int) < 48 := by omega
            have q6 : (57 : Int) < (c : Int) := by omega
            by_cases hk0 : k = 0
            · have e0 : ((k : Int) == 0) = true := by rw [hk0]; rfl
              have HOK : Hid (okN k c = false) := by rw [Hid, okN, Bool.eq_false_iff]; simp; omega
              clear hcc hk0
              have HF : Hid (tot = false) := by
                have := HG.out
                rw [HOK.out, Bool.false_and] at this
                exact this.symm
              go_wp2
              go_ret
              exact ⟨by rw [HV.out, HF.out]; rfl, rfl⟩
            · have e0 : ((k : Int) == 0) = false := beq_eq_false_iff_ne.2 (by omega)
              have HOK : Hid (okN k c = false) := by rw [Hid, okN, Bool.eq_false_iff]; simp; omega
              clear hcc hk0
              have HF : Hid (tot = false) := by
                have := HG.out
                rw [HOK.out, Bool.false_and] at this
                exact this.symm
              go_wp2
              go_ret
              exact ⟨by rw [HV.out, HF.out]; rfl, rfl⟩
          · have q0 : (97 : Int) ≤ (c : Int) := by omega
            have q1 : (c : Int) ≤ 122 := by omega
            have q2 : (65 : Int) ≤ (c : Int) := by omega
            have q3 : ¬ (c : Int) ≤ 90 := by omega
            have q4 : ((c : Int) != 45) = true := by exact bne_iff_ne.2 (by omega)
            have q5 : ¬ (c : Int) < 48 := by omega
            have q6 : (57 : Int) < (c : Int) := by omega
            have HOK : Hid (okN k c = true) := by rw [Hid, okN]; simp; omega
            clear hcc
            have HN : Hid (nameGo (k + 1) (s.data.toList.drop (k + 1)) = tot) := by
              have := HG.out
              rw [HOK.out, Bool.true_and] at this
              exact this
            go_wp2
            go_round
            case rel => exact ⟨k + 1, by omega, by go_num, HN.out⟩
            case measure => simp [intOf]; omega
          · have q0 : (97 : Int) ≤ (c : Int) := by omega
            have q1 : ¬ (c : Int) ≤ 122 := by omega
            have q2 : (65 : Int) ≤ (c : Int) := by omega
            have q3 : ¬ (c : Int) ≤ 90 := by omega
            have q4 : ((c : Int) != 45) = true := by exact bne_iff_ne.2 (by omega)
            have q5 : ¬ (c : Int) < 48 := by omega
            have q6 : (57 : Int) < (c : Int) := by omega
            by_cases hk0 : k = 0
            · have e0 : ((k : Int) == 0) = true := by rw [hk0]; rfl
              have HOK : Hid (okN k c = false) := by rw [Hid, okN, Bool.eq_false_iff]; simp; omega
              clear hcc hk0
              have HF : Hid (tot = false) := by
                have := HG.out
                rw [HOK.out, Bool.false_and] at this
                exact this.symm
              go_wp2
              go_ret
              exact ⟨by rw [HV.out, HF.out]; rfl, rfl⟩
            · have e0 : ((k : Int) == 0) = false := beq_eq_false_iff_ne.2 (by omega)
              have HOK : Hid (okN k c = false) := by rw [Hid, okN, Bool.eq_false_iff]; simp; omega
              clear hcc hk0
              have HF : Hid (tot = false) := by
                have := HG.out
                rw [HOK.out, Bool.false_and] at this
                exact this.symm
              go_wp2
              go_ret
              exact ⟨by rw [HV.out, HF.out]; rfl, rfl⟩
        · obtain rfl : k = s.size := by omega
          have HT : Hid (tot = true) := by
            have := HE.out
            rw [List.drop_eq_nil_iff.2 (by simp), nameGo] at this
            exact this.symm
          clear HE
          go_wp2
          go_ret
          exact ⟨by rw [HV.out, HT.out]; rfl, rfl⟩
set_option maxRecDepth 100000 in
set_option maxHeartbeats 8000000 in
theorem isName_any (s : ByteArray) (hs9 : s.size ≤ 1000000000) (w : World) : Calls Tryz.prog 95 #[.string s] w fun e w' => e = .returned (.bool (nameB s)) ∧ Below w.heap.size w w' := by
  obtain ⟨tot, htot⟩ : ∃ t, nameGo 0 s.data.toList = t := ⟨_, rfl⟩
  have HVF : Hid (tot = false → nameB s = false) := fun h => by
    rw [nameB, htot, h, Bool.and_false]
  have HV : Hid (nameB s = (decide (1 ≤ s.size) && decide (s.size ≤ 12) && tot)) := by rw [Hid, nameB, htot]
  have HTT := Lib.hid htot
  clear htot
  have kc := Lib.run_convert_string_bytes (P := Tryz.prog) w 9 163 5 s Tryz.underlying9 Tryz.underlying163 Tryz.underlying5
  go_enter Tryz.func95, Tryz.ntmps95
  go_wp2
  clear kc
  go_loop [3, 4, 5, 9] (fun _ _ _ i => ∃ k : Nat, k ≤ s.size ∧ i = .int .i64 k ∧ nameGo k (s.data.toList.drop k) = tot) (fun _ _ _ i => s.size - (intOf i).toNat)
  case atStart => exact ⟨0, Nat.zero_le _, rfl, by rw [List.drop_zero]; exact HTT.out⟩
  case round =>
    obtain ⟨k, hk, rfl, he⟩ := hrel
    have HE := Lib.hid he
    clear he
    by_cases hlt : k < s.size
    · have hkl : k < s.data.toList.length := by simpa using hlt
      have HD := Lib.hid (dropB hkl)
      have hcb : (s.data.toList.getD k 0).toNat ≤ 255 := by have := UInt8.toNat_lt (s.data.toList.getD k 0); omega
      have d0 := Lib.bytesWorld_cell w 5 s k hlt
      have HG : Hid ((okN k (s.data.toList.getD k 0).toNat && nameGo (k + 1) (s.data.toList.drop (k + 1))) = tot) := by
        have := HE.out
        rw [HD.out, nameGo] at this
        exact this
      generalize (s.data.toList.getD k 0).toNat = c at *
      have hlti : (k : Int) < (s.size : Int) := by omega
      clear HE hkl
      have hcs : (c < 45) ∨ (c = 45) ∨ (45 < c ∧ c < 48) ∨ (48 ≤ c ∧ c ≤ 57) ∨ (57 < c ∧ c < 65) ∨ (65 ≤ c ∧ c ≤ 90) ∨ (90 < c ∧ c < 97) ∨ (97 ≤ c ∧ c ≤ 122) ∨ (122 < c) := by omega
      rcases hcs with hcc | hcc | hcc | hcc | hcc | hcc | hcc | hcc | hcc
      · have q0 : ¬ (97 : Int) ≤ (c : Int) := by omega
        have q1 : (c : Int) ≤ 122 := by omega
        have q2 : ¬ (65 : Int) ≤ (c : Int) := by omega
        have q3 : (c : Int) ≤ 90 := by omega
        have q4 : ((c : Int) != 45) = true := by exact bne_iff_ne.2 (by omega)
        have q5 : (c : Int) < 48 := by omega
        have q6 : ¬ (57 : Int) < (c : Int) := by omega
        by_cases hk0 : k = 0
        · have e0 : ((k : Int) == 0) = true := by rw [hk0]; rfl
          have HOK : Hid (okN k c = false) := by rw [Hid, okN, Bool.eq_false_iff]; simp; omega
          clear hcc hk0
          have HF : Hid (tot = false) := by
            have := HG.out
            rw [HOK.out, Bool.false_and] at this
            exact this.symm
          go_wp2
          go_ret
          exact ⟨by rw [HVF.out HF.out]; rfl, Lib.bytesWorld_below _ _ _⟩
        · have e0 : ((k : Int) == 0) = false := beq_eq_false_iff_ne.2 (by omega)
          have HOK : Hid (okN k c = false) := by rw [Hid, okN, Bool.eq_false_iff]; simp; omega
          clear hcc hk0
          have HF : Hid (tot = false) := by
            have := HG.out
            rw [HOK.out, Bool.false_and] at this
            exact this.symm
          go_wp2
          go_ret
          exact ⟨by rw [HVF.out HF.out]; rfl, Lib.bytesWorld_below _ _ _⟩
      · have q0 : ¬ (97 : Int) ≤ (c : Int) := by omega
        have q1 : (c : Int) ≤ 122 := by omega
        have q2 : ¬ (65 : Int) ≤ (c : Int) := by omega
        have q3 : (c : Int) ≤ 90 := by omega
        have q4 : ((c : Int) != 45) = false := by rw [hcc]; rfl
        have q5 : (c : Int) < 48 := by omega
        have q6 : ¬ (57 : Int) < (c : Int) := by omega
        by_cases hk0 : k = 0
        · have e0 : ((k : Int) == 0) = true := by rw [hk0]; rfl
          have HOK : Hid (okN k c = false) := by rw [Hid, okN, Bool.eq_false_iff]; simp; omega
          clear hcc hk0
          have HF : Hid (tot = false) := by
            have := HG.out
            rw [HOK.out, Bool.false_and] at this
            exact this.symm
          go_wp2
          go_ret
          exact ⟨by rw [HVF.out HF.out]; rfl, Lib.bytesWorld_below _ _ _⟩
        · have e0 : ((k : Int) == 0) = false := beq_eq_false_iff_ne.2 (by omega)
          have HOK : Hid (okN k c = true) := by rw [Hid, okN]; simp; omega
          clear hcc hk0
          have HN : Hid (nameGo (k + 1) (s.data.toList.drop (k + 1)) = tot) := by
            have := HG.out
            rw [HOK.out, Bool.true_and] at this
            exact this
          go_wp2
          go_round
          case rel => exact ⟨k + 1, by omega, by go_num, HN.out⟩
          case measure => simp [intOf]; omega
      · have q0 : ¬ (97 : Int) ≤ (c : Int) := by omega
        have q1 : (c : Int) ≤ 122 := by omega
        have q2 : ¬ (65 : Int) ≤ (c : Int) := by omega
        have q3 : (c : Int) ≤ 90 := by omega
        have q4 : ((c : Int) != 45) = true := by exact bne_iff_ne.2 (by omega)
        have q5 : (c : Int) < 48 := by omega
        have q6 : ¬ (57 : Int) < (c : Int) := by omega
        by_cases hk0 : k = 0
        · have e0 : ((k : Int) == 0) = true := by rw [hk0]; rfl
          have HOK : Hid (okN k c = false) := by rw [Hid, okN, Bool.eq_false_iff]; simp; omega
          clear hcc hk0
          have HF : Hid (tot = false) := by
            have := HG.out
            rw [HOK.out, Bool.false_and] at this
            exact this.symm
          go_wp2
          go_ret
          exact ⟨by rw [HVF.out HF.out]; rfl, Lib.bytesWorld_below _ _ _⟩
        · have e0 : ((k : Int) == 0) = false := beq_eq_false_iff_ne.2 (by omega)
          have HOK : Hid (okN k c = false) := by rw [Hid, okN, Bool.eq_false_iff]; simp; omega
          clear hcc hk0
          have HF : Hid (tot = false) := by
            have := HG.out
            rw [HOK.out, Bool.false_and] at this
            exact this.symm
          go_wp2
          go_ret
          exact ⟨by rw [HVF.out HF.out]; rfl, Lib.bytesWorld_below _ _ _⟩
      · have q0 : ¬ (97 : Int) ≤ (c : Int) := by omega
        have q1 : (c : Int) ≤ 122 := by omega
        have q2 : ¬ (65 : Int) ≤ (c : Int) := by omega
        have q3 : (c : Int) ≤ 90 := by omega
        have q4 : ((c : Int) != 45) = true := by exact bne_iff_ne.2 (by omega)
        have q5 : ¬ (c : Int) < 48 := by omega
        have q6 : ¬ (57 : Int) < (c : Int) := by omega
        by_cases hk0 : k = 0
        · have e0 : ((k : Int) == 0) = true := by rw [hk0]; rfl
          have HOK : Hid (okN k c = false) := by rw [Hid, okN, Bool.eq_false_iff]; simp; omega
          clear hcc hk0
          have HF : Hid (tot = false) := by
            have := HG.out
            rw [HOK.out, Bool.false_and] at this
            exact this.symm
          go_wp2
          go_ret
          exact ⟨by rw [HVF.out HF.out]; rfl, Lib.bytesWorld_below _ _ _⟩
        · have e0 : ((k : Int) == 0) = false := beq_eq_false_iff_ne.2 (by omega)
          have HOK : Hid (okN k c = true) := by rw [Hid, okN]; simp; omega
          clear hcc hk0
          have HN : Hid (nameGo (k + 1) (s.data.toList.drop (k + 1)) = tot) := by
            have := HG.out
            rw [HOK.out, Bool.true_and] at this
            exact this
          go_wp2
          go_round
          case rel => exact ⟨k + 1, by omega, by go_num, HN.out⟩
          case measure => simp [intOf]; omega
      · have q0 : ¬ (97 : Int) ≤ (c : Int) := by omega
        have q1 : (c : Int) ≤ 122 := by omega
        have q2 : ¬ (65 : Int) ≤ (c : Int) := by omega
        have q3 : (c : Int) ≤ 90 := by omega
        have q4 : ((c : Int) != 45) = true := by exact bne_iff_ne.2 (by omega)
        have q5 : ¬ (c : Int) < 48 := by omega
        have q6 : (57 : Int) < (c : Int) := by omega
        by_cases hk0 : k = 0
        · have e0 : ((k : Int) == 0) = true := by rw [hk0]; rfl
          have HOK : Hid (okN k c = false) := by rw [Hid, okN, Bool.eq_false_iff]; simp; omega
          clear hcc hk0
          have HF : Hid (tot = false) := by
            have := HG.out
            rw [HOK.out, Bool.false_and] at this
            exact this.symm
          go_wp2
          go_ret
          exact ⟨by rw [HVF.out HF.out]; rfl, Lib.bytesWorld_below _ _ _⟩
        · have e0 : ((k : Int) == 0) = false := beq_eq_false_iff_ne.2 (by omega)
          have HOK : Hid (okN k c = false) := by rw [Hid, okN, Bool.eq_false_iff]; simp; omega
          clear hcc hk0
          have HF : Hid (tot = false) := by
            have := HG.out
            rw [HOK.out, Bool.false_and] at this
            exact this.symm
          go_wp2
          go_ret
          exact ⟨by rw [HVF.out HF.out]; rfl, Lib.bytesWorld_below _ _ _⟩
      · have q0 : ¬ (97 : Int) ≤ (c : Int) := by omega
        have q1 : (c : Int) ≤ 122 := by omega
        have q2 : (65 : Int) ≤ (c : Int) := by omega
        have q3 : (c : Int) ≤ 90 := by omega
        have q4 : ((c : Int) != 45) = true := by exact bne_iff_ne.2 (by omega)
        have q5 : ¬ (c : Int) < 48 := by omega
        have q6 : (57 : Int) < (c : Int) := by omega
        have HOK : Hid (okN k c = true) := by rw [Hid, okN]; simp; omega
        clear hcc
        have HN : Hid (nameGo (k + 1) (s.data.toList.drop (k + 1)) = tot) := by
          have := HG.out
          rw [HOK.out, Bool.true_and] at this
          exact this
        go_wp2
        go_round
        case rel => exact ⟨k + 1, by omega, by go_num, HN.out⟩
        case measure => simp [intOf]; omega
      · have q0 : ¬ (97 : Int) ≤ (c : Int) := by omega
        have q1 : (c : Int) ≤ 122 := by omega
        have q2 : (65 : Int) ≤ (c : Int) := by omega
        have q3 : ¬ (c : Int) ≤ 90 := by omega
        have q4 : ((c : Int) != 45) = true := by exact bne_iff_ne.2 (by omega)
        have q5 : ¬ (c : Int) < 48 := by omega
        have q6 : (57 : Int) < (c : Int) := by omega
        by_cases hk0 : k = 0
        · have e0 : ((k : Int) == 0) = true := by rw [hk0]; rfl
          have HOK : Hid (okN k c = false) := by rw [Hid, okN, Bool.eq_false_iff]; simp; omega
          clear hcc hk0
          have HF : Hid (tot = false) := by
            have := HG.out
            rw [HOK.out, Bool.false_and] at this
            exact this.symm
          go_wp2
          go_ret
          exact ⟨by rw [HVF.out HF.out]; rfl, Lib.bytesWorld_below _ _ _⟩
        · have e0 : ((k : Int) == 0) = false := beq_eq_false_iff_ne.2 (by omega)
          have HOK : Hid (okN k c = false) := by rw [Hid, okN, Bool.eq_false_iff]; simp; omega
          clear hcc hk0
          have HF : Hid (tot = false) := by
            have := HG.out
            rw [HOK.out, Bool.false_and] at this
            exact this.symm
          go_wp2
          go_ret
          exact ⟨by rw [HVF.out HF.out]; rfl, Lib.bytesWorld_below _ _ _⟩
      · have q0 : (97 : Int) ≤ (c : Int) := by omega
        have q1 : (c : Int) ≤ 122 := by omega
        have q2 : (65 : Int) ≤ (c : Int) := by omega
        have q3 : ¬ (c : Int) ≤ 90 := by omega
        have q4 : ((c : Int) != 45) = true := by exact bne_iff_ne.2 (by omega)
        have q5 : ¬ (c : Int) < 48 := by omega
        have q6 : (57 : Int) < (c : Int) := by omega
        have HOK : Hid (okN k c = true) := by rw [Hid, okN]; simp; omega
        clear hcc
        have HN : Hid (nameGo (k + 1) (s.data.toList.drop (k + 1)) = tot) := by
          have := HG.out
          rw [HOK.out, Bool.true_and] at this
          exact this
        go_wp2
        go_round
        case rel => exact ⟨k + 1, by omega, by go_num, HN.out⟩
        case measure => simp [intOf]; omega
      · have q0 : (97 : Int) ≤ (c : Int) := by omega
        have q1 : ¬ (c : Int) ≤ 122 := by omega
        have q2 : (65 : Int) ≤ (c : Int) := by omega
        have q3 : ¬ (c : Int) ≤ 90 := by omega
        have q4 : ((c : Int) != 45) = true := by exact bne_iff_ne.2 (by omega)
        have q5 : ¬ (c : Int) < 48 := by omega
        have q6 : (57 : Int) < (c : Int) := by omega
        by_cases hk0 : k = 0
        · have e0 : ((k : Int) == 0) = true := by rw [hk0]; rfl
          have HOK : Hid (okN k c = false) := by rw [Hid, okN, Bool.eq_false_iff]; simp; omega
          clear hcc hk0
          have HF : Hid (tot = false) := by
            have := HG.out
            rw [HOK.out, Bool.false_and] at this
            exact this.symm
          go_wp2
          go_ret
          exact ⟨by rw [HVF.out HF.out]; rfl, Lib.bytesWorld_below _ _ _⟩
        · have e0 : ((k : Int) == 0) = false := beq_eq_false_iff_ne.2 (by omega)
          have HOK : Hid (okN k c = false) := by rw [Hid, okN, Bool.eq_false_iff]; simp; omega
          clear hcc hk0
          have HF : Hid (tot = false) := by
            have := HG.out
            rw [HOK.out, Bool.false_and] at this
            exact this.symm
          go_wp2
          go_ret
          exact ⟨by rw [HVF.out HF.out]; rfl, Lib.bytesWorld_below _ _ _⟩
    · obtain rfl : k = s.size := by omega
      have HT : Hid (tot = true) := by
        have := HE.out
        rw [List.drop_eq_nil_iff.2 (by simp), nameGo] at this
        exact this.symm
      clear HE
      by_cases h0 : s.size = 0
      · obtain rfl : s = ⟨#[]⟩ := by
          cases s with
          | mk d =>
            have : d.size = 0 := h0
            rw [Array.eq_empty_of_size_eq_zero this]
        go_wp2
        go_ret
        exact ⟨by rw [HV.out]; rfl, Lib.bytesWorld_below _ _ _⟩
      · have hne0 : ¬ s.toList = [] := fun h => h0 (by
          rw [ByteArray.toList_eq] at h
          have := congrArg List.length h
          simpa using this)
        have hne1 : s.toList.isEmpty = false := by
          rw [Bool.eq_false_iff]
          exact fun h => hne0 (List.isEmpty_iff.1 h)
        by_cases h12 : s.size ≤ 12
        · have h12i : (s.size : Int) ≤ 12 := by omega
          have HV2 : Hid (nameB s = true) := by rw [Hid, HV.out, HT.out, decide_eq_true (show 1 ≤ s.size by omega), decide_eq_true h12]; rfl
          go_wp2
          go_ret
          exact ⟨by rw [HV2.out]; rfl, Lib.bytesWorld_below _ _ _⟩
        · have h12i : ¬ (s.size : Int) ≤ 12 := by omega
          have HV2 : Hid (nameB s = false) := by rw [Hid, HV.out, decide_eq_false h12, Bool.and_false, Bool.false_and]
          go_wp2
          go_ret
          exact ⟨by rw [HV2.out]; rfl, Lib.bytesWorld_below _ _ _⟩
end Go.Proofs.YtmcjnfghlpnghaaGreatDoor
