/- Names: both functions. -/
import Derived.Test.YtlbgocgocanloaaGreatDoorf4D4
import Derived.Lib.AtoiErrMem
import Derived.Test.YtlbgocgocanloaaGreatDoorf4X1
import Derived.Test.YtlbgocgocanloaaGreatDoorf4W1
namespace Go.Proofs.YtlbgocgocanloaaGreatDoor
open Go.RowKit
/-- a finding: its beam and its offset -/
abbrev Fnd := Int × Int
/-- may a byte stand at a place of a name -/
def okN (i c : Nat) : Bool := (decide (97 ≤ c) && decide (c ≤ 122) || decide (65 ≤ c) && decide (c ≤ 90)) || !decide (i = 0) && (decide (c = 45) || decide (48 ≤ c) && decide (c ≤ 57))
def nameGo : Nat → List UInt8 → Bool
  | _, [] => true
  | i, b :: l => okN i b.toNat && nameGo (i + 1) l
def nameB (s : ByteArray) : Bool := decide (1 ≤ s.size) && decide (s.size ≤ 12) && nameGo 0 s.data.toList
theorem dropB {l : List UInt8} {k : Nat} (h : k < l.length) : l.drop k = l.getD k 0 :: l.drop (k + 1) := by
  rw [List.drop_eq_getElem_cons h]
  simp [h]
set_option maxRecDepth 100000 in
set_option maxHeartbeats 8000000 in
theorem isName_any (s : ByteArray) (hs9 : s.size ≤ 1000000000) (w : World) : Calls Tryz.prog 95 #[.string s] w fun e w' => e = .returned (.bool (nameB s)) ∧ Below w.heap.size w w' := by
  obtain ⟨tot, htot⟩ : ∃ t, nameGo 0 s.data.toList = t := ⟨_, rfl⟩
  have HVF : Hid (tot = false → nameB s = false) := fun h => by
    rw [nameB, htot, h, Bool.and_false]
  have HV : Hid (nameB s = (decide (1 ≤ s.size) && decide (s.size ≤ 12) && tot)) := by rw [Hid, nameB, htot]
  have HTT := Lib.hid htot
  clear htot
  have kc := Lib.run_convert_string_bytes (P := Tryz.prog) w 9 163 5 s Tryz.underlying9 Tryz.underlying163 Tryz.underlying5
  go_enter Tryz.func95, Tryz.ntmps95
  go_wp2
  clear kc
  go_loop [3, 4, 5, 9] (fun _ _ _ i => ∃ k : Nat, k ≤ s.size ∧ i = .int .i64 k ∧ nameGo k (s.data.toList.drop k) = tot) (fun _ _ _ i => s.size - (intOf i).toNat)
  case atStart => exact ⟨0, Nat.zero_le _, rfl, by rw [List.drop_zero]; exact HTT.out⟩
  case round =>
    obtain ⟨k, hk, rfl, he⟩ := hrel
    have HE := Lib.hid he
    clear he
    by_cases hlt : k < s.size
    · have hkl : k < s.data.toList.length := by simpa using hlt
      have HD := Lib.hid (dropB hkl)
      have hcb : (s.data.toList.getD k 0).toNat ≤ 255 := by have := UInt8.toNat_lt (s.data.toList.getD k 0); omega
      have d0 := Lib.bytesWorld_cell w 5 s k hlt
      have HG : Hid ((okN k (s.data.toList.getD k 0).toNat && nameGo (k + 1) (s.data.toList.drop (k + 1))) = tot) := by
        have := HE.out
        rw [HD.out, nameGo] at this
        exact this
      generalize (s.data.toList.getD k 0).toNat = c at *
      have hlti : (k : Int) < (s.size : Int) := by omega
      clear HE hkl
      have hcs : (c < 45) ∨ (c = 45) ∨ (45 < c ∧ c < 48) ∨ (48 ≤ c ∧ c ≤ 57) ∨ (57 < c ∧ c < 65) ∨ (65 ≤ c ∧ c ≤ 90) ∨ (90 < c ∧ c < 97) ∨ (97 ≤ c ∧ c ≤ 122) ∨ (122 < c) := by omega
      rcases hcs with hcc | hcc | hcc | hcc | hcc | hcc | hcc | hcc | hcc
      · have q0 : ¬ (97 : Int) ≤ (c : Int) := by omega
        have q1 : (c : Int) ≤ 122 := by omega
        have q2 : ¬ (65 : Int) ≤ (c : Int) := by omega
        have q3 : (c : Int) ≤ 90 := by omega
        have q4 : ((c : Int) != 45) = true := by exact bne_iff_ne.2 (by omega)
        have q5 : (c : Int) < 48 := by omega
        have q6 : ¬ (57 : Int) < (c : Int) := by omega
        by_cases hk0 : k = 0
        · have e0 : ((k : Int) == 0) = true := by rw [hk0]; rfl
          have HOK : Hid (okN k c = false) := by rw [Hid, okN, Bool.eq_false_iff]; simp; omega
          clear hcc hk0
          have HF : Hid (tot = false) := by
            have := HG.out
            rw [HOK.out, Bool.false_and] at this
            exact this.symm
          go_wp2
          go_ret
          exact ⟨by rw [HVF.out HF.out]; rfl, Lib.bytesWorld_below _ _ _⟩
        · have e0 : ((k : Int) == 0) = false := beq_eq_false_iff_ne.2 (by omega)
          have HOK : Hid (okN k c = false) := by rw [Hid, okN, Bool.eq_false_iff]; simp; omega
          clear hcc hk0
          have HF : Hid (tot = false) := by
            have := HG.out
            rw [HOK.out, Bool.false_and] at this
            exact this.symm
          go_wp2
          go_ret
          exact ⟨by rw [HVF.out HF.out]; rfl, Lib.bytesWorld_below _ _ _⟩
      · have q0 : ¬ (97 : Int) ≤ (c : Int) := by omega
        have q1 : (c : Int) ≤ 122 := by omega
        have q2 : ¬ (65 : Int) ≤ (c : Int) := by omega
        have q3 : (c : Int) ≤ 90 := by omega
        have q4 : ((c : Int) != 45) = false := by rw [hcc]; rfl
        have q5 : (c : Int) < 48 := by omega
        have q6 : ¬ (57 : Int) < (c : Int) := by omega
        by_cases hk0 : k = 0
        · have e0 : ((k : Int) == 0) = true := by rw [hk0]; rfl
          have HOK : Hid (okN k c = false) := by rw [Hid, okN, Bool.eq_false_iff]; simp; omega
          clear hcc hk0
          have HF : Hid (tot = false) := by
            have := HG.out
            rw [HOK.out, Bool.false_and] at this
            exact this.symm
          go_wp2
          go_ret
          exact ⟨by rw [HVF.out HF.out]; rfl, Lib.bytesWorld_below _ _ _⟩
        · have e0 : ((k : Int) == 0) = false := beq_eq_false_iff_ne.2 (by omega)
          have HOK : Hid (okN k c = true) := by rw [Hid, okN]; simp; omega
          clear hcc hk0
          have HN : Hid (nameGo (k + 1) (s.data.toList.drop (k + 1)) = tot) := by
            have := HG.out
            rw [HOK.out, Bool.true_and] at this
            exact this
          go_wp2
          go_round
          case rel => exact ⟨k + 1, by omega, by go_num, HN.out⟩
          case measure => simp [intOf]; omega
      · have q0 : ¬ (97 : Int) ≤ (c : Int) := by omega
        have q1 : (c : Int) ≤ 122 := by omega
        have q2 : ¬ (65 : Int) ≤ (c : Int) := by omega
        have q3 : (c : Int) ≤ 90 := by omega
        have q4 : ((c : Int) != 45) = true := by exact bne_iff_ne.2 (by omega)
        have q5 : (c : Int) < 48 := by omega
        have q6 : ¬ (57 : Int) < (c : Int) := by omega
        by_cases hk0 : k = 0
        · have e0 : ((k : Int) == 0) = true := by rw [hk0]; rfl
          have HOK : Hid (okN k c = false) := by rw [Hid, okN, Bool.eq_false_iff]; simp; omega
          clear hcc hk0
          have HF : Hid (tot = false) := by
            have := HG.out
            rw [HOK.out, Bool.false_and] at this
            exact this.symm
          go_wp2
          go_ret
          exact ⟨by rw [HVF.out HF.out]; rfl, Lib.bytesWorld_below _ _ _⟩
        · have e0 : ((k : Int) == 0) = false := beq_eq_false_iff_ne.2 (by omega)
          have HOK : Hid (okN k c = false) := by rw [Hid, okN, Bool.eq_false_iff]; simp; omega
          clear hcc hk0
          have HF : Hid (tot = false) := by
            have := HG.out
            rw [HOK.out, Bool.false_and] at this
            exact this.symm
          go_wp2
          go_ret
          exact ⟨by rw [HVF.out HF.out]; rfl, Lib.bytesWorld_below _ _ _⟩
      · have q0 : ¬ (97 : Int) ≤ (c : Int) := by omega
        have q1 : (c : Int) ≤ 122 := by omega
        have q2 : ¬ (65 : Int) ≤ (c : Int) := by omega
        have q3 : (c : Int) ≤ 90 := by omega
        have q4 : ((c : Int) != 45) = true := by exact bne_iff_ne.2 (by omega)
        have q5 : ¬ (c : Int) < 48 := by omega
        have q6 : ¬ (57 : Int) < (c : Int) := by omega
        by_cases hk0 : k = 0
        · have e0 : ((k : Int) == 0) = true := by rw [hk0]; rfl
          have HOK : Hid (okN k c = false) := by rw [Hid, okN, Bool.eq_false_iff]; simp; omega
          clear hcc hk0
          have HF : Hid (tot = false) := by
            have := HG.out
            rw [HOK.out, Bool.false_and] at this
            exact this.symm
          go_wp2
          go_ret
          exact ⟨by rw [HVF.out HF.out]; rfl, Lib.bytesWorld_below _ _ _⟩
        · have e0 : ((k : Int) == 0) = false := beq_eq_false_iff_ne.2 (by omega)
          have HOK : Hid (okN k c = true) := by rw [Hid, okN]; simp; omega
          clear hcc hk0
          have HN : Hid (nameGo (k + 1) (s.data.toList.drop (k + 1)) = tot) := by
            have := HG.out
            rw [HOK.out, Bool.true_and] at this
            exact this
          go_wp2
          go_round
          case rel => exact ⟨k + 1, by omega, by go_num, HN.out⟩
          case measure => simp [intOf]; omega
      · have q0 : ¬ (97 : Int) ≤ (c : Int) := by omega
        have q1 : (c : Int) ≤ 122 := by omega
        have q2 : ¬ (65 : Int) ≤ (c : Int) := by omega
        have q3 : (c : Int) ≤ 90 := by omega
        have q4 : ((c : Int) != 45) = true := by exact bne_iff_ne.2 (by omega)
        have q5 : ¬ (c : Int) < 48 := by omega
        have q6 : (57 : Int) < (c : Int) := by omega
        by_cases hk0 : k = 0
        · have e0 : ((k : Int) == 0) = true := by rw [hk0]; rfl
          have HOK : Hid (okN k c = false) := by rw [Hid, okN, Bool.eq_false_iff]; simp; omega
          clear hcc hk0
          have HF : Hid (tot = false) := by
            have := HG.out
            rw [HOK.out, Bool.false_and] at this
            exact this.symm
          go_wp2
          go_ret
          exact ⟨by rw [HVF.out HF.out]; rfl, Lib.bytesWorld_below _ _ _⟩
        · have e0 : ((k : Int) == 0) = false := beq_eq_false_iff_ne.2 (by omega)
          have HOK : Hid (okN k c = false) := by rw [Hid, okN, Bool.eq_false_iff]; simp; omega
          clear hcc hk0
          have HF : Hid (tot = false) := by
            have := HG.out
            rw [HOK.out, Bool.false_and] at this
            exact this.symm
          go_wp2
          go_ret
          exact ⟨by rw [HVF.out HF.out]; rfl, Lib.bytesWorld_below _ _ _⟩
      · have q0 : ¬ (97 : Int) ≤ (c : Int) := by omega
        have q1 : (c : Int) ≤ 122 := by omega
        have q2 : (65 : Int) ≤ (c : Int) := by omega
        have q3 : (c : Int) ≤ 90 := by omega
        have q4 : ((c : Int) != 45) = true := by exact bne_iff_ne.2 (by omega)
        have q5 : ¬ (c : Int) < 48 := by omega
        have q6 : (57 : Int) < (c : Int) := by omega
        have HOK : Hid (okN k c = true) := by rw [Hid, okN]; simp; omega
        clear hcc
        have HN : Hid (nameGo (k + 1) (s.data.toList.drop (k + 1)) = tot) := by
          have := HG.out
          rw [HOK.out, Bool.true_and] at this
          exact this
        go_wp2
        go_round
        case rel => exact ⟨k + 1, by omega, by go_num, HN.out⟩
        case measure => simp [intOf]; omega
      · have q0 : ¬ (97 : Int) ≤ (c : Int) := by omega
        have q1 : (c : Int) ≤ 122 := by omega
        have q2 : (65 : Int) ≤ (c : Int) := by omega
        have q3 : ¬ (c : Int) ≤ 90 := by omega
        have q4 : ((c : Int) != 45) = true := by exact bne_iff_ne.2 (by omega)
        have q5 : ¬ (c : Int) < 48 := by omega
        have q6 : (57 : Int) < (c : Int) := by omega
        by_cases hk0 : k = 0
        · have e0 : ((k : Int) == 0) = true := by rw [hk0]; rfl
          have HOK : Hid (okN k c = false) := by rw [Hid, okN, Bool.eq_false_iff]; simp; omega
          clear hcc hk0
          have HF : Hid (tot = false) := by
            have := HG.out
            rw [HOK.out, Bool.false_and] at this
            exact this.symm
          go_wp2
          go_ret
          exact ⟨by rw [HVF.out HF.out]; rfl, Lib.bytesWorld_below _ _ _⟩
        · have e0 : ((k : Int) == 0) = false := beq_eq_false_iff_ne.2 (by omega)
          have HOK : Hid (okN k c = false) := by rw [Hid, okN, Bool.eq_false_iff]; simp; omega
          clear hcc hk0
          have HF : Hid (tot = false) := by
            have := HG.out
            rw [HOK.out, Bool.false_and] at this
            exact this.symm
          go_wp2
          go_ret
          exact ⟨by rw [HVF.out HF.out]; rfl, Lib.bytesWorld_below _ _ _⟩
      · have q0 : (97 : Int) ≤ (c : Int) := by omega
        have q1 : (c : Int) ≤ 122 := by omega
        have q2 : (65 : Int) ≤ (c : Int) := by omega
        have q3 : ¬ (c : Int) ≤ 90 := by omega
        have q4 : ((c : Int) != 45) = true := by exact bne_iff_ne.2 (by omega)
        have q5 : ¬ (c : Int) < 48 := by omega
        have q6 : (57 : Int) < (c : Int) := by omega
        have HOK : Hid (okN k c = true) := by rw [Hid, okN]; simp; omega
        clear hcc
        have HN : Hid (nameGo (k + 1) (s.data.toList.drop (k + 1)) = tot) := by
          have := HG.out
          rw [HOK.out, Bool.true_and] at this
          exact this
        go_wp2
        go_round
        case rel => exact ⟨k + 1, by omega, by go_num, HN.out⟩
        case measure => simp [intOf]; omega
      · have q0 : (97 : Int) ≤ (c : Int) := by omega
        have q1 : ¬ (c : Int) ≤ 122 := by omega
        have q2 : (65 : Int) ≤ (c : Int) := by omega
        have q3 : ¬ (c : Int) ≤ 90 := by omega
        have q4 : ((c : Int) != 45) = true := by exact bne_iff_ne.2 (by omega)
        have q5 : ¬ (c : Int) < 48 := by omega
        have q6 : (57 : Int) < (c : Int) := by omega
        by_cases hk0 : k = 0
        · have e0 : ((k : Int) == 0) = true := by rw [hk0]; rfl
          have HOK : Hid (okN k c = false) := by rw [Hid, okN, Bool.eq_false_iff]; simp; omega
          clear hcc hk0
          have HF : Hid (tot = false) := by
            have := HG.out
            rw [HOK.out, Bool.false_and] at this
            exact this.symm
          go_wp2
          go_ret
          exact ⟨by rw [HVF.out HF.out]; rfl, Lib.bytesWorld_below _ _ _⟩
        · have e0 : ((k : Int) == 0) = false := beq_eq_false_iff_ne.2 (by omega)
          have HOK : Hid (okN k c = false) := by rw [Hid, okN, Bool.eq_false_iff]; simp; omega
          clear hcc hk0
          have HF : Hid (tot = false) := by
            have := HG.out
            rw [HOK.out, Bool.false_and] at this
            exact this.symm
          go_wp2
          go_ret
          exact ⟨by rw [HVF.out HF.out]; rfl, Lib.bytesWorld_below _ _ _⟩
    · obtain rfl : k = s.size := by omega
      have HT : Hid (tot = true) := by
        have := HE.out
        rw [List.drop_eq_nil_iff.2 (by simp), nameGo] at this
        exact this.symm
      clear HE
      by_cases h0 : s.size = 0
      · obtain rfl : s = ⟨#[]⟩ := by
          cases s with
          | mk d =>
            have : d.size = 0 := h0
            rw [Array.eq_empty_of_size_eq_zero this]
        go_wp2
        go_ret
        exact ⟨by rw [HV.out]; rfl, Lib.bytesWorld_below _ _ _⟩
      · have hne0 : ¬ s.toList = [] := fun h => h0 (by
          rw [ByteArray.toList_eq] at h
          have := congrArg List.length h
          simpa using this)
        have hne1 : s.toList.isEmpty = false := by
          rw [Bool.eq_false_iff]
          exact fun h => hne0 (List.isEmpty_iff.1 h)
        by_cases h12 : s.size ≤ 12
        · have h12i : (s.size : Int) ≤ 12 := by omega
          have HV2 : Hid (nameB s = true) := by rw [Hid, HV.out, HT.out, decide_eq_true (show 1 ≤ s.size by omega), decide_eq_true h12]; rfl
          go_wp2
          go_ret
          exact ⟨by rw [HV2.out]; rfl, Lib.bytesWorld_below _ _ _⟩
        · have h12i : ¬ (s.size : Int) ≤ 12 := by omega
          have HV2 : Hid (nameB s = false) := by rw [Hid, HV.out, decide_eq_false h12, Bool.and_false, Bool.false_and]
          go_wp2
          go_ret
          exact ⟨by rw [HV2.out]; rfl, Lib.bytesWorld_below _ _ _⟩
end Go.Proofs.YtlbgocgocanloaaGreatDoor

/- Findings: their errors, and the copy. -/
namespace Go.Proofs.YtlbgocgocanloaaGreatDoor
open Go.RowKit
/-- a finding: by whom, when, which beam, by how much -/
abbrev Fd := ByteArray × Int × Int × Int
def fdVals (x : Fd) : List Value := [.string x.1, .int .i64 x.2.1, .int .i64 x.2.2.1, .int .i64 x.2.2.2]
def fdCells (l : List Fd) : List Value := l.flatMap fdVals
def fdF (x : Fd) : Fnd := (x.2.2.1, x.2.2.2)
theorem fdCells_cons (x : Fd) (l : List Fd) : fdCells (x :: l) = fdVals x ++ fdCells l := by simp [fdCells]
theorem fdCells_len : ∀ l : List Fd, (fdCells l).length = l.length * 4
  | [] => rfl
  | x :: l => by
    rw [fdCells_cons, List.length_append, fdCells_len l]
    simp [fdVals]
    omega
theorem fdCells_at : ∀ (l : List Fd) (k : Nat) (x : Fd), l[k]? = some x → (fdCells l)[k * 4]? = some (.string x.1) ∧ (fdCells l)[k * 4 + 1]? = some (.int .i64 x.2.1) ∧ (fdCells l)[k * 4 + 2]? = some (.int .i64 x.2.2.1) ∧ (fdCells l)[k * 4 + 3]? = some (.int .i64 x.2.2.2)
  | [], k, x, h => by simp at h
  | y :: l, 0, x, h => by
    obtain rfl : y = x := by simpa using h
    simp [fdCells_cons, fdVals]
  | y :: l, k + 1, x, h => by
    have ih := fdCells_at l k x (by simpa using h)
    rw [fdCells_cons, show (k + 1) * 4 = k * 4 + 4 by omega, show k * 4 + 4 + 1 = k * 4 + 1 + 4 by omega, show k * 4 + 4 + 2 = k * 4 + 2 + 4 by omega, show k * 4 + 4 + 3 = k * 4 + 3 + 4 by omega]
    rw [List.getElem?_append_right (by simp [fdVals]), List.getElem?_append_right (by simp [fdVals]), List.getElem?_append_right (by simp [fdVals]), List.getElem?_append_right (by simp [fdVals])]
    simpa [fdVals] using ih
theorem fdCells_one (l : List Fd) : ∀ u ∈ fdCells l, u.oneCell' = true := by
  intro u hu
  simp only [fdCells, List.mem_flatMap] at hu
  obtain ⟨x, _, hx⟩ := hu
  simp [fdVals] at hx
  rcases hx with rfl | rfl | rfl | rfl <;> rfl
theorem Rd.at4 {w : World} {B : Nat} {A : Option Addr} {xs : List Value} (h : Rd w B A xs) {k : Nat} {u0 u1 u2 u3 : Value} (h0 : xs[k * 4]? = some u0) (h1 : xs[k * 4 + 1]? = some u1) (h2 : xs[k * 4 + 2]? = some u2) (h3 : xs[k * 4 + 3]? = some u3) :
    ∃ b off, A = some ⟨b, off, none⟩ ∧ b < B ∧ w.cell? ⟨b, off + k * 4, none⟩ = some u0 ∧ w.cell? ⟨b, off + k * 4 + 1, none⟩ = some u1 ∧ w.cell? ⟨b, off + k * 4 + 2, none⟩ = some u2 ∧ w.cell? ⟨b, off + k * 4 + 3, none⟩ = some u3 := by
  obtain ⟨b, off, rfl, hbB, d0⟩ := h.at_ h0
  obtain ⟨b1, off1, hA1, _, d1⟩ := h.at_ h1
  obtain ⟨b2, off2, hA2, _, d2⟩ := h.at_ h2
  obtain ⟨b3, off3, hA3, _, d3⟩ := h.at_ h3
  simp only [Option.some.injEq, Addr.mk.injEq, and_true] at hA1 hA2 hA3
  obtain ⟨rfl, rfl⟩ := hA1
  obtain ⟨rfl, rfl⟩ := hA2
  obtain ⟨rfl, rfl⟩ := hA3
  exact ⟨b, off, rfl, hbB, d0, by rw [Nat.add_assoc]; exact d1, by rw [Nat.add_assoc]; exact d2, by rw [Nat.add_assoc]; exact d3⟩
def rightB (d b o : Int) : Bool := withinB d 0 100000 && withinB b 0 100000 && withinB o (-10000) 10000
/-- the error of a finding -/
def fdE (x : Fd) : Int := if nameB x.1 = true then (if rightB x.2.1 x.2.2.1 x.2.2.2 = true then 0 else 2) else 4
def fdGo : List Fd → Int
  | [] => 0
  | x :: l => if fdE x = 0 then fdGo l else fdE x
/-- the error of findings -/
def fdM (l : List Fd) : Int := if l.length ≤ 100 then fdGo l else 8
set_option maxRecDepth 100000 in
set_option maxHeartbeats 8000000 in
theorem findingErr_any (s : ByteArray) (d b o : Int) (hs : s.size ≤ 1000000000) (w : World) : Calls Tryz.prog 49 #[.agg #[.string s, .int .i64 d, .int .i64 b, .int .i64 o]] w (ErrVal w (fdE (s, d, b, o))) := by
  have hb0 : Below w.heap.size w (w.alloc (.cells #[.string s, .int .i64 d, .int .i64 b, .int .i64 o] 25)) := (Below.refl _ _).alloc (Nat.le_refl _) _
  have k0 : (w.alloc (.cells #[.string s, .int .i64 d, .int .i64 b, .int .i64 o] 25)).heap[w.heap.size]? = some (.cells #[.string s, .int .i64 d, .int .i64 b, .int .i64 o] 25 (0, 0)) := by rw [heapq_alloc, if_pos rfl]
  have c0 := (cell_of_row _ _ 0 _ _ _ k0).trans (by rfl : _ = some (.string s))
  have c1 := (cell_of_row _ _ 1 _ _ _ k0).trans (by rfl : _ = some (.int .i64 d))
  have c2 := (cell_of_row _ _ 2 _ _ _ k0).trans (by rfl : _ = some (.int .i64 b))
  have c3 := (cell_of_row _ _ 3 _ _ _ k0).trans (by rfl : _ = some (.int .i64 o))
  have hs0 := hb0.size
  have HB := Lib.hid hb0
  have N := fun W => isName_any s hs W
  obtain ⟨r, hr⟩ : ∃ r, rightB d b o = r := ⟨_, rfl⟩
  obtain ⟨n, hn⟩ : ∃ n, nameB s = n := ⟨_, rfl⟩
  have HV : Hid (fdE (s, d, b, o) = firstE [unlessE n 4, unlessE r 2]) := by
    rw [Hid, fdE, hn, hr]
    cases n <;> cases r <;> rfl
  rw [hn] at N
  have HR := Lib.hid hr
  clear hb0 k0 hs hn hr
  cases q1 : withinB d 0 100000 <;> cases q2 : withinB b 0 100000 <;> cases q3 : withinB o (-10000) 10000
  all_goals
    have HR2 : Hid (_ = r) := HR.out
    unfold rightB at HR2
    rw [q1, q2, q3] at HR2
    have V1 := fun W => within_val d 0 100000 _ q1 W
    have V2 := fun W => within_val b 0 100000 _ q2 W
    have V3 := fun W => within_val o (-10000) 10000 _ q3 W
    clear q1 q2 q3 HR
    go_enter Tryz.func49, Tryz.ntmps49
    go_upto_region 1 with (fail)
    generalize (w.alloc (.cells #[.string s, .int .i64 d, .int .i64 b, .int .i64 o] 25)) = w0 at *
    go_upto_region 2 with (first | (go_at_call_of 41 (Value.int .i64 d); refine (V1 _).mono ?_; rintro e w' ⟨rfl, rfl⟩) | (go_at_call_of 41 (Value.int .i64 b); refine (V2 _).mono ?_; rintro e w' ⟨rfl, rfl⟩) | (go_at_call_of 41 (Value.int .i64 o); refine (V3 _).mono ?_; rintro e w' ⟨rfl, rfl⟩))
    go_wp2_with (first | (go_at_call 95; refine (N _).mono ?_; rintro e w1 ⟨rfl, hb1⟩) | (go_at_call 62; refine (unless_any _ _ _).mono ?_; rintro e w' ⟨rfl, rfl⟩) | (go_at_call 61; refine (first2 _ _ _).mono ?_; rintro e w' ⟨rfl, rfl⟩))
    go_ret
    exact ⟨by rw [HV.out, ← HR2.out]; rfl, (HB.out.trans (hb1.mono hs0)).alloc (Nat.le_trans hs0 hb1.size) _⟩
theorem drop_consF {α : Type} {l : List α} {k : Nat} {a : α} (h : l[k]? = some a) : l.drop k = a :: l.drop (k + 1) := by
  obtain ⟨hk, rfl⟩ := List.getElem?_eq_some_iff.1 h
  exact List.drop_eq_getElem_cons hk
theorem info25 : (Tryz.prog.info? 25).map (fun i => (i.zero, i.size, i.bytes)) = some (some (.agg #[.string ⟨#[]⟩, .int .i64 0, .int .i64 0, .int .i64 0]), 4, 40) := by kernel_rfl
def FdsPost (w : World) (l : List Fd) (n : Nat) (e : Ending) (w' : World) : Prop := ∃ A c, e = .returned (.slice A n c) ∧ Rd w' w'.heap.size A (fdCells l) ∧ Below w.heap.size w w'
set_option maxHeartbeats 4000000 in
theorem CopyFindings_any (w : World) (B : Nat) (A : Option Addr) (n c : Nat) (l : List Fd) (hl : l.length = n) (hn : n ≤ 1000000) (h : Rd w B A (fdCells l)) (hB : B ≤ w.heap.size) :
    Calls Tryz.prog 34 #[.slice A n c] w (FdsPost w l n) := by
  obtain ⟨i1, hi1, hy0, hy1, hy2⟩ := info_parts info25
  have HL := Lib.hid hl
  have h' := h.below (((Below.refl _ _).alloc (Nat.le_refl _) (.cells #[] 25) : Below w.heap.size w (w.alloc (.cells #[] 25))).mono hB)
  have hb0 : Below w.heap.size w (w.alloc (.cells #[] 25)) := (Below.refl _ _).alloc (Nat.le_refl _) _
  clear hl
  go_enter Tryz.func34, Tryz.ntmps34
  go_wp2_with (at_builtin; refine stp ?_)
  unfold Stp
  refine wpList_append_copy _ rfl _ _ 76 rfl w.heap.size 25 i1 _ 4 40 Tryz.underlying76 hi1 hy0 hy1 hy2 rfl (by omega) w.heap.size rfl (by rw [heapq_alloc, if_pos rfl]) (Nat.le_refl _) B A n c (fdCells l) rfl (by rw [fdCells_len, HL.out]) h' (fdCells_one l) (by simp only [maxLen]; omega) (by omega) (by simp) ?_
  intro g cap w1 hown hgrow _
  have hb1 : Below w.heap.size w w1 := hb0.grown hgrow (by simp) (fun k hk => by rw [← Option.some.inj hk]; exact Nat.le_refl _)
  have HR := Lib.hid (Rd_of_own hown)
  have HB := Lib.hid hb1
  clear hown hgrow hb0 hb1 h h'
  go_wp2
  go_ret
  exact ⟨_, _, rfl, HR.out, HB.out⟩
end Go.Proofs.YtlbgocgocanloaaGreatDoor
