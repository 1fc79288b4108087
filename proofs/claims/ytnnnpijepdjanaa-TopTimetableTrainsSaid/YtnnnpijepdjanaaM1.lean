/- Leaf functions of the braking chapter: whole quotients, bounds, errors, roots. Tracks: what stands in memory, and whether they are right. Squares of a track; a track copied. A right track and a right system, opened; what a train loses along a piece. A right track is accepted; it is opened; right squares. Reads of a drawing region that take the greatest or the least of numbers. A track and a system opened; the limits at posts. -/
import Derived.Test.YtnnnpijepdjanaaE2
import Derived.Test.YtnnnpijepdjanaaC0
namespace Go.Proofs.Ytnnnpijepdjanaa
open Go.RowKit

theorem Ceil_any (a : Int) (h0 : 0 ≤ a) (h1 : a ≤ 1000000000000) (w : World) :
    Calls Try.prog 20 #[.int .i64 a, .int .i64 1000] w fun e w' => e = .returned (.int .i64 ((a + 999) / 1000)) ∧ w = w' := by
  have q0 : ∀ W : World, Calls Try.prog 52 #[.int .i64 (-a), .int .i64 1000] W fun e w' => e = .returned (.int .i64 (-((a + 999) / 1000))) ∧ W = w' := by
    intro W
    have t3 : a.tdiv 1000 = a / 1000 := Int.tdiv_eq_ediv_of_nonneg h0
    have hb : 0 ≤ a.tdiv 1000 ∧ a.tdiv 1000 ≤ 1000000000000 := by rw [t3]; omega
    by_cases hm : a % 1000 = 0
    · have hc : -((a + 999) / 1000) = -(a.tdiv 1000) := by rw [t3]; omega
      rw [hc]
      have hl : ¬ 0 < a % 1000 := by omega
      clear t3 hc hm
      go_enter Try.func52, Try.ntmps52
      go_wp2
      go_ret
      exact ⟨rfl, rfl⟩
    · have hc : -((a + 999) / 1000) = -(a.tdiv 1000) - 1 := by rw [t3]; omega
      rw [hc]
      have hl : 0 < a % 1000 := by omega
      clear t3 hc hm
      go_enter Try.func52, Try.ntmps52
      go_wp2
      go_ret
      exact ⟨rfl, rfl⟩
  have hb : 0 ≤ (a + 999) / 1000 ∧ (a + 999) / 1000 ≤ 1000000000000 := by omega
  generalize (a + 999) / 1000 = q at *
  go_enter Try.func20, Try.ntmps20
  go_wp2_with (go_at_call 52; refine (q0 _).mono ?_; rintro e w' ⟨rfl, rfl⟩)
  go_ret
  exact ⟨by simp, rfl⟩
theorem bkWithin_any (n lo hi : Int) (w : World) :
    Calls Try.prog 50 #[.int .i64 n, .int .i64 lo, .int .i64 hi] w fun e w' => e = .returned (.bool (withinB n lo hi)) ∧ w = w' := by
  by_cases h1 : lo ≤ n <;> by_cases h2 : n ≤ hi
  all_goals
    go_enter Try.func50, Try.ntmps50
    go_wp2
    go_ret
    exact ⟨by simp [withinB, h1, h2], rfl⟩
theorem bkWithin_val (n lo hi : Int) (b : Bool) (h : withinB n lo hi = b) (w : World) :
    Calls Try.prog 50 #[.int .i64 n, .int .i64 lo, .int .i64 hi] w fun e w' => e = .returned (.bool b) ∧ w = w' := by
  rw [← h]
  exact bkWithin_any n lo hi w
theorem isSquare_val (n : Int) (b : Bool) (h : withinB n 0 20000000000 = b) (w : World) :
    Calls Try.prog 42 #[.int .i64 n] w fun e w' => e = .returned (.bool b) ∧ w = w' := by
  go_enter Try.func42, Try.ntmps42
  go_wp2_with (go_at_call 50; refine (bkWithin_val _ _ _ b h _).mono ?_; rintro e w' ⟨rfl, rfl⟩)
  go_ret
  exact ⟨rfl, rfl⟩
theorem bkUnless_any (b : Bool) (x : Int) (w : World) :
    Calls Try.prog 41 #[.bool b, .int .i64 x] w fun e w' => e = .returned (.int .i64 (unlessE b x)) ∧ w = w' := by
  cases b
  all_goals
    go_enter Try.func41, Try.ntmps41
    go_wp2
    go_ret
    exact ⟨by simp [unlessE], rfl⟩
theorem bkUnless_yes (x : Int) (w : World) :
    Calls Try.prog 41 #[.bool true, .int .i64 x] w fun e w' => e = .returned (.int .i64 0) ∧ w = w' := bkUnless_any true x w
/-- no error among errors that are none -/
theorem bkFirst_zero (g n : Nat) (w : World) (hn : n ≤ 1000) (h : ∀ k, k < n → w.cell? ⟨g, k, none⟩ = some (.int .i64 0)) :
    Calls Try.prog 40 #[.slice (some ⟨g, 0, none⟩) n n] w fun e w' => e = .returned (.int .i64 0) ∧ w = w' := by
  go_enter Try.func40, Try.ntmps40
  go_wp2
  go_loop [4, 7] (fun _ i => ∃ k : Nat, k ≤ n ∧ i = .int .i64 k) (fun _ i => n - (intOf i).toNat)
  case atStart => exact ⟨0, Nat.zero_le _, rfl⟩
  case round =>
    obtain ⟨k, hk, rfl⟩ := hrel
    by_cases hlt : k < n
    · have hc := h k hlt
      go_wp2
      go_round
      case rel => exact ⟨k + 1, by omega, by go_num⟩
      case measure => simp [intOf]; omega
    · go_wp2
      go_ret
      exact ⟨rfl, rfl⟩
theorem bkFirst2 (w : World) :
    Calls Try.prog 40 #[.slice (some ⟨w.heap.size, 0, none⟩) 2 2] (w.alloc (.cells #[.int .i64 0, .int .i64 0] 31)) fun e w' => e = .returned (.int .i64 0) ∧ w.alloc (.cells #[.int .i64 0, .int .i64 0] 31) = w' :=
  bkFirst_zero _ 2 _ (by decide) (by
    intro k hk
    match k, hk with
    | 0, _ => simp
    | 1, _ => simp)
theorem bkFirst3 (w : World) :
    Calls Try.prog 40 #[.slice (some ⟨w.heap.size, 0, none⟩) 3 3] (w.alloc (.cells #[.int .i64 0, .int .i64 0, .int .i64 0] 31)) fun e w' => e = .returned (.int .i64 0) ∧ w.alloc (.cells #[.int .i64 0, .int .i64 0, .int .i64 0] 31) = w' :=
  bkFirst_zero _ 3 _ (by decide) (by
    intro k hk
    match k, hk with
    | 0, _ => simp
    | 1, _ => simp
    | 2, _ => simp)
/-- the whole root, rounded down -/
def RtIs (n r : Int) : Prop := 0 ≤ r ∧ r ≤ 200000 ∧ r * r ≤ n ∧ n < (r + 1) * (r + 1)
theorem sq_mono {a b : Int} (h0 : 0 ≤ a) (h : a ≤ b) : a * a ≤ b * b := Int.mul_le_mul h h h0 (by omega)
theorem rt_unique {n r s : Int} (hr : RtIs n r) (hs : RtIs n s) : r = s := by
  obtain ⟨r0, _, r1, r2⟩ := hr
  obtain ⟨s0, _, s1, s2⟩ := hs
  rcases Int.lt_trichotomy r s with h | h | h
  · have := sq_mono (a := r + 1) (b := s) (by omega) (by omega)
    omega
  · exact h
  · have := sq_mono (a := s + 1) (b := r) (by omega) (by omega)
    omega
def RtRel (n : Int) (u3 u4 : Value) (wr w : World) : Prop := ∃ lo hi : Int, u3 = .int .i64 lo ∧ u4 = .int .i64 hi ∧ 0 ≤ lo ∧ lo < hi ∧ hi ≤ 280000 ∧ lo * lo ≤ n ∧ n < hi * hi ∧ wr = w
theorem root_any (n : Int) (h0 : 0 ≤ n) (h1 : n ≤ 20000000000) (w : World) :
    Calls Try.prog 74 #[.int .i64 n] w fun e w' => (∃ r, RtIs n r ∧ e = .returned (.int .i64 r)) ∧ w = w' := by
  go_enter Try.func74, Try.ntmps74
  go_wp2
  go_loopw [3, 4] (fun u3 u4 wr => RtRel n u3 u4 wr w) (fun u3 u4 _ => (intOf u4 - intOf u3).toNat)
  case atStart => exact ⟨0, 280000, rfl, rfl, by omega, by omega, by omega, by omega, by omega, rfl⟩
  case round =>
    obtain ⟨lo, hi, rfl, rfl, a0, a1, a2, a3, a4, rfl⟩ := hrel
    have A3 := Lib.hid a3
    have A4 := Lib.hid a4
    clear a3 a4
    by_cases hlt : lo + 1 < hi
    · have e0 : (lo + hi).tdiv 2 = (lo + hi) / 2 := Int.tdiv_eq_ediv_of_nonneg (by omega)
      obtain ⟨m, hm⟩ : ∃ m, (lo + hi).tdiv 2 = m := ⟨_, rfl⟩
      have m0 : lo < m := by omega
      have m1 : m < hi := by omega
      have mm0 : 0 ≤ m * m := Int.mul_nonneg (by omega) (by omega)
      have mm1 : m * m ≤ 280000 * 280000 := Int.mul_le_mul (by omega) (by omega) (by omega) (by omega)
      clear e0
      by_cases hq : m * m ≤ n
      · have HQ := Lib.hid hq
        go_wp2
        go_roundw
        case rel => exact ⟨m, hi, rfl, rfl, by omega, m1, a2, HQ.out, A4.out, rfl⟩
        case measure => simp [intOf]; omega
      · have HQ := Lib.hid hq
        go_wp2
        go_roundw
        case rel => exact ⟨lo, m, rfl, rfl, a0, m0, by omega, A3.out, by have := HQ.out; omega, rfl⟩
        case measure => simp [intOf]; omega
    · obtain rfl : hi = lo + 1 := by omega
      go_wp2
      go_ret
      refine ⟨⟨lo, ⟨a0, ?_, A3.out, A4.out⟩, rfl⟩, rfl⟩
      rcases Int.lt_or_le 200000 lo with h9 | h9
      · have := sq_mono (a := 200001) (b := lo) (by omega) (by omega)
        have := A3.out
        omega
      · exact h9
set_option maxRecDepth 100000 in
set_option maxHeartbeats 8000000 in
theorem bkName_any (s : ByteArray) (hs9 : s.size ≤ 1000000000) (w : World) : Calls Try.prog 92 #[.string s] w fun e w' => e = .returned (.bool (nameB s)) ∧ Below w.heap.size w w' := by
  obtain ⟨tot, htot⟩ : ∃ t, nameGo 0 s.data.toList = t := ⟨_, rfl⟩
  have HVF : Hid (tot = false → nameB s = false) := fun h => by
    rw [nameB, htot, h, Bool.and_false]
  have HV : Hid (nameB s = (decide (1 ≤ s.size) && decide (s.size ≤ 12) && tot)) := by rw [Hid, nameB, htot]
  have HTT := Lib.hid htot
  clear htot
  have kc := Lib.run_convert_string_bytes (P := Try.prog) w 9 157 5 s Try.underlying9 Try.underlying157 Try.underlying5
  go_enter Try.func92, Try.ntmps92
  go_wp2
  clear kc
  go_loop [3, 4, 5, 9] (fun _ _ _ i => ∃ k : Nat, k ≤ s.size ∧ i = .int .i64 k ∧ nameGo k (s.data.toList.drop k) = tot) (fun _ _ _ i => s.size - (intOf i).toNat)
  case atStart => exact ⟨0, Nat.zero_le _, rfl, by rw [List.drop_zero]; exact HTT.out⟩
  case round =>
    obtain ⟨k, hk, rfl, he⟩ := hrel
    have HE := Lib.hid he
    clear he
    by_cases hlt : k < s.size
    · have hkl : k < s.data.toList.length := by simpa using hlt
      have HD := Lib.hid (dropB hkl)
      have hcb : (s.data.toList.getD k 0).toNat ≤ 255 := by have := UInt8.toNat_lt (s.data.toList.getD k 0); omega
      have d0 := Lib.bytesWorld_cell w 5 s k hlt
      have HG : Hid ((okN k (s.data.toList.getD k 0).toNat && nameGo (k + 1) (s.data.toList.drop (k + 1))) = tot) := by
        have := HE.out
        rw [HD.out, nameGo] at this
        exact this
      generalize (s.data.toList.getD k 0).toNat = c at *
      have hlti : (k : Int) < (s.size : Int) := by omega
      clear HE hkl
      have hcs : (c < 45) ∨ (c = 45) ∨ (45 < c ∧ c < 48) ∨ (48 ≤ c ∧ c ≤ 57) ∨ (57 < c ∧ c < 65) ∨ (65 ≤ c ∧ c ≤ 90) ∨ (90 < c ∧ c < 97) ∨ (97 ≤ c ∧ c ≤ 122) ∨ (122 < c) := by omega
      rcases hcs with hcc | hcc | hcc | hcc | hcc | hcc | hcc | hcc | hcc
      · have q0 : ¬ (97 : Int) ≤ (c : Int) := by omega
        have q1 : (c : Int) ≤ 122 := by omega
        have q2 : ¬ (65 : Int) ≤ (c : Int) := by omega
        have q3 : (c : Int) ≤ 90 := by omega
        have q4 : ((c : Int) != 45) = true := by exact bne_iff_ne.2 (by omega)
        have q5 : (c : Int) < 48 := by omega
        have q6 : ¬ (57 : Int) < (c : Int) := by omega
        by_cases hk0 : k = 0
        · have e0 : ((k : Int) == 0) = true := by rw [hk0]; rfl
          have HOK : Hid (okN k c = false) := by rw [Hid, okN, Bool.eq_false_iff]; simp; omega
          clear hcc hk0
          have HF : Hid (tot = false) := by
            have := HG.out
            rw [HOK.out, Bool.false_and] at this
            exact this.symm
          go_wp2
          go_ret
          exact ⟨by rw [HVF.out HF.out]; rfl, Lib.bytesWorld_below _ _ _⟩
        · have e0 : ((k : Int) == 0) = false := beq_eq_false_iff_ne.2 (by omega)
          have HOK : Hid (okN k c = false) := by rw [Hid, okN, Bool.eq_false_iff]; simp; omega
          clear hcc hk0
          have HF : Hid (tot = false) := by
            have := HG.out
            rw [HOK.out, Bool.false_and] at this
            exact this.symm
          go_wp2
          go_ret
          exact ⟨by rw [HVF.out HF.out]; rfl, Lib.bytesWorld_below _ _ _⟩
      · have q0 : ¬ (97 : Int) ≤ (c : Int) := by omega
        have q1 : (c : Int) ≤ 122 := by omega
        have q2 : ¬ (65 : Int) ≤ (c : Int) := by omega
        have q3 : (c : Int) ≤ 90 := by omega
        have q4 : ((c : Int) != 45) = false := by rw [hcc]; rfl
        have q5 : (c : Int) < 48 := by omega
        have q6 : ¬ (57 : Int) < (c : Int) := by omega
        by_cases hk0 : k = 0
        · have e0 : ((k : Int) == 0) = true := by rw [hk0]; rfl
          have HOK : Hid (okN k c = false) := by rw [Hid, okN, Bool.eq_false_iff]; simp; omega
          clear hcc hk0
          have HF : Hid (tot = false) := by
            have := HG.out
            rw [HOK.out, Bool.false_and] at this
            exact this.symm
          go_wp2
          go_ret
          exact ⟨by rw [HVF.out HF.out]; rfl, Lib.bytesWorld_below _ _ _⟩
        · have e0 : ((k : Int) == 0) = false := beq_eq_false_iff_ne.2 (by omega)
          have HOK : Hid (okN k c = true) := by rw [Hid, okN]; simp; omega
          clear hcc hk0
          have HN : Hid (nameGo (k + 1) (s.data.toList.drop (k + 1)) = tot) := by
            have := HG.out
            rw [HOK.out, Bool.true_and] at this
            exact this
          go_wp2
          go_round
          case rel => exact ⟨k + 1, by omega, by go_num, HN.out⟩
          case measure => simp [intOf]; omega
      · have q0 : ¬ (97 : Int) ≤ (c : Int) := by omega
        have q1 : (c : Int) ≤ 122 := by omega
        have q2 : ¬ (65 : Int) ≤ (c : Int) := by omega
        have q3 : (c : Int) ≤ 90 := by omega
        have q4 : ((c : Int) != 45) = true := by exact bne_iff_ne.2 (by omega)
        have q5 : (c : Int) < 48 := by omega
        have q6 : ¬ (57 : Int) < (c : Int) := by omega
        by_cases hk0 : k = 0
        · have e0 : ((k : Int) == 0) = true := by rw [hk0]; rfl
          have HOK : Hid (okN k c = false) := by rw [Hid, okN, Bool.eq_false_iff]; simp; omega
          clear hcc hk0
          have HF : Hid (tot = false) := by
            have := HG.out
            rw [HOK.out, Bool.false_and] at this
            exact this.symm
          go_wp2
          go_ret
          exact ⟨by rw [HVF.out HF.out]; rfl, Lib.bytesWorld_below _ _ _⟩
        · have e0 : ((k : Int) == 0) = false := beq_eq_false_iff_ne.2 (by omega)
          have HOK : Hid (okN k c = false) := by rw [Hid, okN, Bool.eq_false_iff]; simp; omega
          clear hcc hk0
          have HF : Hid (tot = false) := by
            have := HG.out
            rw [HOK.out, Bool.false_and] at this
            exact this.symm
          go_wp2
          go_ret
          exact ⟨by rw [HVF.out HF.out]; rfl, Lib.bytesWorld_below _ _ _⟩
      · have q0 : ¬ (97 : Int) ≤ (c : Int) := by omega
        have q1 : (c : Int) ≤ 122 := by omega
        have q2 : ¬ (65 : Int) ≤ (c : Int) := by omega
        have q3 : (c : Int) ≤ 90 := by omega
        have q4 : ((c : Int) != 45) = true := by exact bne_iff_ne.2 (by omega)
        have q5 : ¬ (c : Int) < 48 := by omega
        have q6 : ¬ (57 : Int) < (c : Int) := by omega
        by_cases hk0 : k = 0
        · have e0 : ((k : Int) == 0) = true := by rw [hk0]; rfl
          have HOK : Hid (okN k c = false) := by rw [Hid, okN, Bool.eq_false_iff]; simp; omega
          clear hcc hk0
          have HF : Hid (tot = false) := by
            have := HG.out
            rw [HOK.out, Bool.false_and] at this
            exact this.symm
          go_wp2
          go_ret
          exact ⟨by rw [HVF.out HF.out]; rfl, Lib.bytesWorld_below _ _ _⟩
        · have e0 : ((k : Int) == 0) = false := beq_eq_false_iff_ne.2 (by omega)
          have HOK : Hid (okN k c = true) := by rw [Hid, okN]; simp; omega
          clear hcc hk0
          have HN : Hid (nameGo (k + 1) (s.data.toList.drop (k + 1)) = tot) := by
            have := HG.out
            rw [HOK.out, Bool.true_and] at this
            exact this
          go_wp2
          go_round
          case rel => exact ⟨k + 1, by omega, by go_num, HN.out⟩
          case measure => simp [intOf]; omega
      · have q0 : ¬ (97 : Int) ≤ (c : Int) := by omega
        have q1 : (c : Int) ≤ 122 := by omega
        have q2 : ¬ (65 : Int) ≤ (c : Int) := by omega
        have q3 : (c : Int) ≤ 90 := by omega
        have q4 : ((c : Int) != 45) = true := by exact bne_iff_ne.2 (by omega)
        have q5 : ¬ (c : Int) < 48 := by omega
        have q6 : (57 : Int) < (c : Int) := by omega
        by_cases hk0 : k = 0
        · have e0 : ((k : Int) == 0) = true := by rw [hk0]; rfl
          have HOK : Hid (okN k c = false) := by rw [Hid, okN, Bool.eq_false_iff]; simp; omega
          clear hcc hk0
          have HF : Hid (tot = false) := by
            have := HG.out
            rw [HOK.out, Bool.false_and] at this
            exact this.symm
          go_wp2
          go_ret
          exact ⟨by rw [HVF.out HF.out]; rfl, Lib.bytesWorld_below _ _ _⟩
        · have e0 : ((k : Int) == 0) = false := beq_eq_false_iff_ne.2 (by omega)
          have HOK : Hid (okN k c = false) := by rw [Hid, okN, Bool.eq_false_iff]; simp; omega
          clear hcc hk0
          have HF : Hid (tot = false) := by
            have := HG.out
            rw [HOK.out, Bool.false_and] at this
            exact this.symm
          go_wp2
          go_ret
          exact ⟨by rw [HVF.out HF.out]; rfl, Lib.bytesWorld_below _ _ _⟩
      · have q0 : ¬ (97 : Int) ≤ (c : Int) := by omega
        have q1 : (c : Int) ≤ 122 := by omega
        have q2 : (65 : Int) ≤ (c : Int) := by omega
        have q3 : (c : Int) ≤ 90 := by omega
        have q4 : ((c : Int) != 45) = true := by exact bne_iff_ne.2 (by omega)
        have q5 : ¬ (c : Int) < 48 := by omega
        have q6 : (57 : Int) < (c : Int) := by omega
        have HOK : Hid (okN k c = true) := by rw [Hid, okN]; simp; omega
        clear hcc
        have HN : Hid (nameGo (k + 1) (s.data.toList.drop (k + 1)) = tot) := by
          have := HG.out
          rw [HOK.out, Bool.true_and] at this
          exact this
        go_wp2
        go_round
        case rel => exact ⟨k + 1, by omega, by go_num, HN.out⟩
        case measure => simp [intOf]; omega
      · have q0 : ¬ (97 : Int) ≤ (c : Int) := by omega
        have q1 : (c : Int) ≤ 122 := by omega
        have q2 : (65 : Int) ≤ (c : Int) := by omega
        have q3 : ¬ (c : Int) ≤ 90 := by omega
        have q4 : ((c : Int) != 45) = true := by exact bne_iff_ne.2 (by omega)
        have q5 : ¬ (c : Int) < 48 := by omega
        have q6 : (57 : Int) < (c : Int) := by omega
        by_cases hk0 : k = 0
        · have e0 : ((k : Int) == 0) = true := by rw [hk0]; rfl
          have HOK : Hid (okN k c = false) := by rw [Hid, okN, Bool.eq_false_iff]; simp; omega
          clear hcc hk0
          have HF : Hid (tot = false) := by
            have := HG.out
            rw [HOK.out, Bool.false_and] at this
            exact this.symm
          go_wp2
          go_ret
          exact ⟨by rw [HVF.out HF.out]; rfl, Lib.bytesWorld_below _ _ _⟩
        · have e0 : ((k : Int) == 0) = false := beq_eq_false_iff_ne.2 (by omega)
          have HOK : Hid (okN k c = false) := by rw [Hid, okN, Bool.eq_false_iff]; simp; omega
          clear hcc hk0
          have HF : Hid (tot = false) := by
            have := HG.out
            rw [HOK.out, Bool.false_and] at this
            exact this.symm
          go_wp2
          go_ret
          exact ⟨by rw [HVF.out HF.out]; rfl, Lib.bytesWorld_below _ _ _⟩
      · have q0 : (97 : Int) ≤ (c : Int) := by omega
        have q1 : (c : Int) ≤ 122 := by omega
        have q2 : (65 : Int) ≤ (c : Int) := by omega
        have q3 : ¬ (c : Int) ≤ 90 := by omega
        have q4 : ((c : Int) != 45) = true := by exact bne_iff_ne.2 (by omega)
        have q5 : ¬ (c : Int) < 48 := by omega
        have q6 : (57 : Int) < (c : Int) := by omega
        have HOK : Hid (okN k c = true) := by rw [Hid, okN]; simp; omega
        clear hcc
        have HN : Hid (nameGo (k + 1) (s.data.toList.drop (k + 1)) = tot) := by
          have := HG.out
          rw [HOK.out, Bool.true_and] at this
          exact this
        go_wp2
        go_round
        case rel => exact ⟨k + 1, by omega, by go_num, HN.out⟩
        case measure => simp [intOf]; omega
      · have q0 : (97 : Int) ≤ (c : Int) := by omega
        have q1 : ¬ (c : Int) ≤ 122 := by omega
        have q2 : (65 : Int) ≤ (c : Int) := by omega
        have q3 : ¬ (c : Int) ≤ 90 := by omega
        have q4 : ((c : Int) != 45) = true := by exact bne_iff_ne.2 (by omega)
        have q5 : ¬ (c : Int) < 48 := by omega
        have q6 : (57 : Int) < (c : Int) := by omega
        by_cases hk0 : k = 0
        · have e0 : ((k : Int) == 0) = true := by rw [hk0]; rfl
          have HOK : Hid (okN k c = false) := by rw [Hid, okN, Bool.eq_false_iff]; simp; omega
          clear hcc hk0
          have HF : Hid (tot = false) := by
            have := HG.out
            rw [HOK.out, Bool.false_and] at this
            exact this.symm
          go_wp2
          go_ret
          exact ⟨by rw [HVF.out HF.out]; rfl, Lib.bytesWorld_below _ _ _⟩
        · have e0 : ((k : Int) == 0) = false := beq_eq_false_iff_ne.2 (by omega)
          have HOK : Hid (okN k c = false) := by rw [Hid, okN, Bool.eq_false_iff]; simp; omega
          clear hcc hk0
          have HF : Hid (tot = false) := by
            have := HG.out
            rw [HOK.out, Bool.false_and] at this
            exact this.symm
          go_wp2
          go_ret
          exact ⟨by rw [HVF.out HF.out]; rfl, Lib.bytesWorld_below _ _ _⟩
    · obtain rfl : k = s.size := by omega
      have HT : Hid (tot = true) := by
        have := HE.out
        rw [List.drop_eq_nil_iff.2 (by simp), nameGo] at this
        exact this.symm
      clear HE
      by_cases h0 : s.size = 0
      · obtain rfl : s = ⟨#[]⟩ := by
          cases s with
          | mk d =>
            have : d.size = 0 := h0
            rw [Array.eq_empty_of_size_eq_zero this]
        go_wp2
        go_ret
        exact ⟨by rw [HV.out]; rfl, Lib.bytesWorld_below _ _ _⟩
      · have hne0 : ¬ s.toList = [] := fun h => h0 (by
          rw [ByteArray.toList_eq] at h
          have := congrArg List.length h
          simpa using this)
        have hne1 : s.toList.isEmpty = false := by
          rw [Bool.eq_false_iff]
          exact fun h => hne0 (List.isEmpty_iff.1 h)
        by_cases h12 : s.size ≤ 12
        · have h12i : (s.size : Int) ≤ 12 := by omega
          have HV2 : Hid (nameB s = true) := by rw [Hid, HV.out, HT.out, decide_eq_true (show 1 ≤ s.size by omega), decide_eq_true h12]; rfl
          go_wp2
          go_ret
          exact ⟨by rw [HV2.out]; rfl, Lib.bytesWorld_below _ _ _⟩
        · have h12i : ¬ (s.size : Int) ≤ 12 := by omega
          have HV2 : Hid (nameB s = false) := by rw [Hid, HV.out, decide_eq_false h12, Bool.and_false, Bool.false_and]
          go_wp2
          go_ret
          exact ⟨by rw [HV2.out]; rfl, Lib.bytesWorld_below _ _ _⟩

end Go.Proofs.Ytnnnpijepdjanaa

namespace Go.Proofs.Ytnnnpijepdjanaa
open Go.RowKit

structure Pc where
  len : Int
  grad : Int
  lim : Int
  leave : Bool
structure Sy where
  brake : Int
  drag : Int
  drive : Int
def pcVals (p : Pc) : List Value := [.int .i64 p.len, .int .i64 p.grad, .int .i64 p.lim, .bool p.leave]
def pcCells (l : List Pc) : List Value := l.flatMap pcVals
def PcR (p : Pc) : Prop := (1 ≤ p.len ∧ p.len ≤ 10000000) ∧ (-100 ≤ p.grad ∧ p.grad ≤ 100) ∧ (0 ≤ p.lim ∧ p.lim ≤ 20000000000)
def SyR (s : Sy) : Prop := (1 ≤ s.brake ∧ s.brake ≤ 3000) ∧ (0 ≤ s.drag ∧ s.drag ≤ 500) ∧ (0 ≤ s.drive ∧ s.drive ≤ 2000) ∧ s.drag ≤ s.brake
def trackV (nm : ByteArray) (Ap : Option Addr) (np cp : Nat) : Value := .agg #[.string nm, .slice Ap np cp]
def syV (s : Sy) : Value := .agg #[.int .i64 s.brake, .int .i64 s.drag, .int .i64 s.drive]
structure TrkR (nm : ByteArray) (pcs : List Pc) : Prop where
  n : nameB nm = true
  l1 : 1 ≤ pcs.length
  l2 : pcs.length ≤ 12
  p : ∀ x ∈ pcs, PcR x
theorem pcCells_len (l : List Pc) : (pcCells l).length = l.length * 4 := by
  induction l with
  | nil => rfl
  | cons x l ih =>
    rw [pcCells, List.flatMap_cons, List.length_append]
    have : (l.flatMap pcVals).length = l.length * 4 := ih
    rw [this]
    simp [pcVals]
    omega
theorem pcCells_at : ∀ (l : List Pc) (k : Nat) (x : Pc), l[k]? = some x → ∀ j u, (pcVals x)[j]? = some u → (pcCells l)[k * 4 + j]? = some u
  | [], _, _, h, _, _, _ => by simp at h
  | y :: l, 0, x, h, j, u, hu => by
    simp at h
    subst h
    have hj : j < (pcVals y).length := (List.getElem?_eq_some_iff.1 hu).1
    rw [pcCells, List.flatMap_cons, Nat.zero_mul, Nat.zero_add, List.getElem?_append_left hj]
    exact hu
  | y :: l, k + 1, x, h, j, u, hu => by
    have h' : l[k]? = some x := by simpa using h
    rw [pcCells, List.flatMap_cons, List.getElem?_append_right (by simp [pcVals]; omega)]
    have e : (k + 1) * 4 + j - (pcVals y).length = k * 4 + j := by simp [pcVals]; omega
    rw [e]
    exact pcCells_at l k x h' j u hu
/-- a piece behind an address -/
theorem Rd.pc {w : World} {B : Nat} {A : Option Addr} {l : List Pc} (h : Rd w B A (pcCells l)) {k : Nat} {x : Pc} (hk : l[k]? = some x) :
    ∃ b off, A = some ⟨b, off, none⟩ ∧ b < B ∧ w.cell? ⟨b, off + k * 4, none⟩ = some (.int .i64 x.len) ∧ w.cell? ⟨b, off + k * 4 + 1, none⟩ = some (.int .i64 x.grad) ∧ w.cell? ⟨b, off + k * 4 + 2, none⟩ = some (.int .i64 x.lim) ∧
      w.cell? ⟨b, off + k * 4 + 3, none⟩ = some (.bool x.leave) := by
  have hat := pcCells_at l k x hk
  obtain ⟨b, off, rfl, hb, c0⟩ := h (k * 4 + 0) _ (hat 0 _ rfl)
  have go : ∀ j u, (pcVals x)[j]? = some u → w.cell? ⟨b, off + (k * 4 + j), none⟩ = some u := fun j u hu => by
    obtain ⟨b', off', e, _, c⟩ := h (k * 4 + j) u (hat j u hu)
    cases e
    exact c
  exact ⟨b, off, rfl, hb, by simpa using c0, go 1 _ rfl, go 2 _ rfl, go 3 _ rfl⟩
theorem cells5w {W : World} {r t : Nat} {a0 a1 a2 a3 a4 : Value} (h : W.heap[r]? = some (.cells #[a0, a1, a2, a3, a4] t (0, 0))) :
    W.cell? ⟨r, 0, none⟩ = some a0 ∧ W.cell? ⟨r, 1, none⟩ = some a1 ∧ W.cell? ⟨r, 2, none⟩ = some a2 ∧ W.cell? ⟨r, 3, none⟩ = some a3 ∧ W.cell? ⟨r, 4, none⟩ = some a4 := by
  refine ⟨?_, ?_, ?_, ?_, ?_⟩ <;> rw [cell_of_row _ _ _ _ _ _ h] <;> rfl
theorem withinB_iff {n lo hi : Int} : withinB n lo hi = true ↔ lo ≤ n ∧ n ≤ hi := by simp [withinB]
/-- an error, or the system is right -/
def SysPost (w : World) (s : Sy) (e : Ending) (w' : World) : Prop := ∃ E : Int, e = .returned (.int .i64 E) ∧ Below w.heap.size w w' ∧ (E = 0 → SyR s)
set_option maxRecDepth 100000 in
theorem refCheckSystem_any (w : World) (s : Sy) : Calls Try.prog 38 #[syV s] w (SysPost w s) := by
  obtain ⟨b, d, v⟩ := s
  obtain ⟨b0, h0⟩ : ∃ x, withinB b 1 3000 = x := ⟨_, rfl⟩
  obtain ⟨b1, h1⟩ : ∃ x, withinB d 0 500 = x := ⟨_, rfl⟩
  obtain ⟨b2, h2⟩ : ∃ x, withinB v 0 2000 = x := ⟨_, rfl⟩
  have W0 := fun W => Within_val b 1 3000 b0 h0 W
  have W1 := fun W => Within_val d 0 500 b1 h1 W
  have W2 := fun W => Within_val v 0 2000 b2 h2 W
  have k0 : (w.alloc (.cells #[.int .i64 b, .int .i64 d, .int .i64 v] 44)).heap[w.heap.size]? = some (.cells #[.int .i64 b, .int .i64 d, .int .i64 v] 44 (0, 0)) := by rw [heapq_alloc, if_pos rfl]
  have hb : Below w.heap.size w (w.alloc (.cells #[.int .i64 b, .int .i64 d, .int .i64 v] 44)) := (Below.refl _ _).alloc (Nat.le_refl _) _
  have HB := Lib.hid hb
  obtain ⟨c0, c1, c2⟩ := cells3w k0
  have H := Lib.hid (And.intro h0 (And.intro h1 h2))
  clear h0 h1 h2 k0 hb
  unfold syV
  go_enter Try.func38, Try.ntmps38
  go_upto_region 1 with (fail)
  generalize w.alloc (.cells #[.int .i64 b, .int .i64 d, .int .i64 v] 44) = w0 at *
  cases b0 with
  | false =>
    go_wp2_with (go_at_call 15; refine (W0 _).mono ?_; rintro e w' ⟨rfl, rfl⟩)
    go_ret
    exact ⟨2, rfl, HB.out, fun h => by cases h⟩
  | true =>
    cases b1 with
    | false =>
      go_wp2_with (first | (go_at_call 15; refine (W0 _).mono ?_; rintro e w' ⟨rfl, rfl⟩; clear W0) | (go_at_call 15; refine (W1 _).mono ?_; rintro e w' ⟨rfl, rfl⟩))
      go_ret
      exact ⟨2, rfl, HB.out, fun h => by cases h⟩
    | true =>
      cases b2 with
      | false =>
        go_wp2_with (first | (go_at_call 15; refine (W0 _).mono ?_; rintro e w' ⟨rfl, rfl⟩; clear W0) | (go_at_call 15; refine (W1 _).mono ?_; rintro e w' ⟨rfl, rfl⟩; clear W1) | (go_at_call 15; refine (W2 _).mono ?_; rintro e w' ⟨rfl, rfl⟩))
        go_ret
        exact ⟨2, rfl, HB.out, fun h => by cases h⟩
      | true =>
        by_cases hd : b < d
        · go_wp2_with (first | (go_at_call 15; refine (W0 _).mono ?_; rintro e w' ⟨rfl, rfl⟩; clear W0) | (go_at_call 15; refine (W1 _).mono ?_; rintro e w' ⟨rfl, rfl⟩; clear W1) | (go_at_call 15; refine (W2 _).mono ?_; rintro e w' ⟨rfl, rfl⟩))
          go_ret
          exact ⟨9, rfl, HB.out, fun h => by cases h⟩
        · go_wp2_with (first | (go_at_call 15; refine (W0 _).mono ?_; rintro e w' ⟨rfl, rfl⟩; clear W0) | (go_at_call 15; refine (W1 _).mono ?_; rintro e w' ⟨rfl, rfl⟩; clear W1) | (go_at_call 15; refine (W2 _).mono ?_; rintro e w' ⟨rfl, rfl⟩))
          go_ret
          exact ⟨0, rfl, HB.out, fun _ => ⟨withinB_iff.1 H.out.1, withinB_iff.1 H.out.2.1, withinB_iff.1 H.out.2.2, by show d ≤ b; omega⟩⟩
def TrkPost2 (w : World) (nm : ByteArray) (pcs : List Pc) (e : Ending) (w' : World) : Prop := ∃ a E : Int, e = .returned (.tuple #[.int .i64 a, .int .i64 E]) ∧ Below w.heap.size w w' ∧ (E = 0 → TrkR nm pcs)
def TrkPost1 (w : World) (nm : ByteArray) (pcs : List Pc) (e : Ending) (w' : World) : Prop := ∃ E : Int, e = .returned (.int .i64 E) ∧ Below w.heap.size w w' ∧ (E = 0 → TrkR nm pcs)
def CtRel (w0 : World) (pcs : List Pc) (n : Nat) (u : Value) (wr : World) : Prop := ∃ k : Nat, k ≤ n ∧ u = .int .i64 k ∧ (∀ x ∈ pcs.take k, PcR x) ∧ Below w0.heap.size w0 wr
set_option maxRecDepth 100000 in
set_option maxHeartbeats 4000000 in
theorem refCheckTrack_any (w : World) (B : Nat) (nm : ByteArray) (Ap : Option Addr) (np cp : Nat) (pcs : List Pc) (hl : pcs.length = np) (hr : Rd w B Ap (pcCells pcs)) (hB : B ≤ w.heap.size) (hn9 : nm.size ≤ 1000000000) (hp9 : np ≤ 1000000000) :
    Calls Try.prog 67 #[trackV nm Ap np cp] w (TrkPost2 w nm pcs) := by
  have HL := Lib.hid hl
  clear hl
  obtain ⟨bn, hbn⟩ : ∃ b, nameB nm = b := ⟨_, rfl⟩
  have NM := fun W => refIsName_val nm bn hbn hn9 W
  have HBN := Lib.hid hbn
  have k0 : (w.alloc (.cells #[.string nm, .slice Ap np cp] 42)).heap[w.heap.size]? = some (.cells #[.string nm, .slice Ap np cp] 42 (0, 0)) := by rw [heapq_alloc, if_pos rfl]
  have hb : Below w.heap.size w (w.alloc (.cells #[.string nm, .slice Ap np cp] 42)) := (Below.refl _ _).alloc (Nat.le_refl _) _
  have hr0 := hr.below (hb.mono hB)
  have hB0 := Nat.le_trans hB hb.size
  have hs := hb.size
  have HB := Lib.hid hb
  obtain ⟨d0, d1⟩ := cells2 k0
  clear hr hB hb k0 hbn
  unfold trackV
  go_enter Try.func67, Try.ntmps67
  go_upto_region 1 with (fail)
  generalize w.alloc (.cells #[.string nm, .slice Ap np cp] 42) = w0 at *
  cases bn with
  | false =>
    go_wp2_with (go_at_call 57; refine (NM _).mono ?_; rintro e w' ⟨rfl, rfl⟩)
    refine bodyPost_ret (v := .tuple #[.int .i64 0, .int .i64 4]) (by simp [results, Try.results67, go_sem]) rfl ⟨0, 4, rfl, HB.out, fun h => by cases h⟩
  | true =>
    by_cases h1 : np = 0
    · subst h1
      go_wp2_with (go_at_call 57; refine (NM _).mono ?_; rintro e w' ⟨rfl, rfl⟩)
      refine bodyPost_ret (v := .tuple #[.int .i64 0, .int .i64 10]) (by simp [results, Try.results67, go_sem]) rfl ⟨0, 10, rfl, HB.out, fun h => by cases h⟩
    have g1 : ((np : Int) == 0) = false := beq_eq_false_iff_ne.2 (by omega)
    by_cases h2 : 12 < np
    · have g2 : (12 : Int) < (np : Int) := by omega
      go_wp2_with (go_at_call 57; refine (NM _).mono ?_; rintro e w' ⟨rfl, rfl⟩)
      refine bodyPost_ret (v := .tuple #[.int .i64 0, .int .i64 8]) (by simp [results, Try.results67, go_sem]) rfl ⟨0, 8, rfl, HB.out, fun h => by cases h⟩
    have g2 : ¬ (12 : Int) < (np : Int) := by omega
    go_wp2_with (go_at_call 57; refine (NM _).mono ?_; rintro e w' ⟨rfl, rfl⟩)
    clear NM g1 g2
    go_loopw [4] (fun u wr => CtRel w0 pcs np u wr) (fun u _ => np - (intOf u).toNat)
    case atStart => exact ⟨0, Nat.zero_le _, rfl, fun x hx => by simp at hx, Below.refl _ _⟩
    case round =>
      obtain ⟨k, hk, rfl, hok, hb⟩ := hrel
      have HOK := Lib.hid hok
      have HBR := Lib.hid hb
      have hsr := hb.size
      replace d0 := kept hb d0
      replace d1 := kept hb d1
      have hrR := hr0.below (hb.mono hB0)
      clear hok hb
      by_cases hlt : k < np
      · obtain ⟨x, hx⟩ : ∃ x, pcs[k]? = some x := ⟨_, List.getElem?_eq_getElem (by rw [HL.out]; exact hlt)⟩
        obtain ⟨b, off, hAp, _, c0, c1, c2, c3⟩ := hrR.pc hx
        have HX := Lib.hid (take_snoc hx)
        subst hAp
        obtain ⟨xl, xg, xm, xv⟩ := x
        simp only at c0 c1 c2 c3
        clear hx hrR
        have kp : (wr.alloc (.cells #[.int .i64 xl, .int .i64 xg, .int .i64 xm, .bool xv] 110)).heap[wr.heap.size]? = some (.cells #[.int .i64 xl, .int .i64 xg, .int .i64 xm, .bool xv] 110 (0, 0)) := by rw [heapq_alloc, if_pos rfl]
        have hb1 : Below wr.heap.size wr (wr.alloc (.cells #[.int .i64 xl, .int .i64 xg, .int .i64 xm, .bool xv] 110)) := (Below.refl _ _).alloc (Nat.le_refl _) _
        go_upto_region 11 with (fail)
        have HB1 := Lib.hid (HBR.out.trans (hb1.mono hsr))
        replace d0 := kept hb1 d0
        replace d1 := kept hb1 d1
        clear c0 c1 c2 c3 hb1
        generalize wr.alloc (.cells #[.int .i64 xl, .int .i64 xg, .int .i64 xm, .bool xv] 110) = w1 at *
        generalize wr.heap.size = g1 at *
        obtain ⟨c0, c1, c2, c3⟩ := cells4w kp
        obtain ⟨b0, h0⟩ : ∃ x, withinB xl 1 10000000 = x := ⟨_, rfl⟩
        obtain ⟨b1, h1⟩ : ∃ x, withinB xg (-100) 100 = x := ⟨_, rfl⟩
        obtain ⟨b2, h2⟩ : ∃ x, withinB xm 0 20000000000 = x := ⟨_, rfl⟩
        have W0 := fun W => Within_val xl 1 10000000 b0 h0 W
        have W1 := fun W => Within_val xg (-100) 100 b1 h1 W
        have W2 := fun W => Within_val xm 0 20000000000 b2 h2 W
        have H := Lib.hid (And.intro h0 (And.intro h1 h2))
        clear h0 h1 h2 kp
        cases b0 with
        | false =>
          go_wp2_with (go_at_call 15; refine (W0 _).mono ?_; rintro e w' ⟨rfl, rfl⟩)
          refine bodyPost_ret (v := .tuple #[.int .i64 k, .int .i64 2]) (by simp [results, Try.results67, go_sem]) rfl ⟨k, 2, rfl, HB.out.trans (HB1.out.mono hs), fun h => by cases h⟩
        | true =>
          cases b1 with
          | false =>
            go_wp2_with (first | (go_at_call 15; refine (W0 _).mono ?_; rintro e w' ⟨rfl, rfl⟩; clear W0) | (go_at_call 15; refine (W1 _).mono ?_; rintro e w' ⟨rfl, rfl⟩))
            refine bodyPost_ret (v := .tuple #[.int .i64 k, .int .i64 2]) (by simp [results, Try.results67, go_sem]) rfl ⟨k, 2, rfl, HB.out.trans (HB1.out.mono hs), fun h => by cases h⟩
          | true =>
            cases b2 with
            | false =>
              go_wp2_with (first | (go_at_call 15; refine (W0 _).mono ?_; rintro e w' ⟨rfl, rfl⟩; clear W0) | (go_at_call 15; refine (W1 _).mono ?_; rintro e w' ⟨rfl, rfl⟩; clear W1) | (go_at_call 15; refine (W2 _).mono ?_; rintro e w' ⟨rfl, rfl⟩))
              refine bodyPost_ret (v := .tuple #[.int .i64 k, .int .i64 2]) (by simp [results, Try.results67, go_sem]) rfl ⟨k, 2, rfl, HB.out.trans (HB1.out.mono hs), fun h => by cases h⟩
            | true =>
              go_wp2_with (first | (go_at_call 15; refine (W0 _).mono ?_; rintro e w' ⟨rfl, rfl⟩; clear W0) | (go_at_call 15; refine (W1 _).mono ?_; rintro e w' ⟨rfl, rfl⟩; clear W1) | (go_at_call 15; refine (W2 _).mono ?_; rintro e w' ⟨rfl, rfl⟩))
              go_roundw
              case rel =>
                refine ⟨k + 1, hlt, by go_num, fun y hy => ?_, HB1.out⟩
                rw [HX.out, List.mem_append, List.mem_singleton] at hy
                rcases hy with hy | rfl
                · exact HOK.out y hy
                · exact ⟨withinB_iff.1 H.out.1, withinB_iff.1 H.out.2.1, withinB_iff.1 H.out.2.2⟩
              case measure => simp [intOf]; omega
      · obtain rfl : k = np := by omega
        clear hrR
        go_wp2
        refine bodyPost_ret (v := .tuple #[.int .i64 0, .int .i64 0]) (by simp [results, Try.results67, go_sem]) rfl ⟨0, 0, rfl, HB.out.trans (HBR.out.mono hs), fun _ => ⟨HBN.out, by rw [HL.out]; omega, by rw [HL.out]; omega, fun y hy => HOK.out y (by rw [List.take_of_length_le (by rw [HL.out]; exact Nat.le_refl _)]; exact hy)⟩⟩
theorem TrackErr_any (w : World) (B : Nat) (nm : ByteArray) (Ap : Option Addr) (np cp : Nat) (pcs : List Pc) (hl : pcs.length = np) (hr : Rd w B Ap (pcCells pcs)) (hB : B ≤ w.heap.size) (hn9 : nm.size ≤ 1000000000) (hp9 : np ≤ 1000000000) :
    Calls Try.prog 37 #[trackV nm Ap np cp] w (TrkPost1 w nm pcs) := by
  have CT := fun (W : World) (h : Below w.heap.size w W) => refCheckTrack_any W B nm Ap np cp pcs hl (hr.below (h.mono hB)) (Nat.le_trans hB h.size) hn9 hp9
  have hb : Below w.heap.size w (w.alloc (.cells #[.string nm, .slice Ap np cp] 42)) := (Below.refl _ _).alloc (Nat.le_refl _) _
  have CT1 := CT _ hb
  have hs := hb.size
  have HB := Lib.hid hb
  clear CT hb
  unfold trackV at CT1 ⊢
  go_enter Try.func37, Try.ntmps37
  go_wp2_with (go_at_call 67; refine CT1.mono ?_; rintro e w' ⟨a, E, rfl, hb1, hE⟩)
  go_ret
  exact ⟨E, rfl, HB.out.trans (hb1.mono hs), hE⟩
def BothPost (w : World) (nm : ByteArray) (pcs : List Pc) (s : Sy) (e : Ending) (w' : World) : Prop := ∃ E : Int, e = .returned (.int .i64 E) ∧ Below w.heap.size w w' ∧ (E = 0 → TrkR nm pcs ∧ SyR s)
set_option maxRecDepth 100000 in
theorem BothErr_any (w : World) (B : Nat) (nm : ByteArray) (Ap : Option Addr) (np cp : Nat) (pcs : List Pc) (s : Sy) (hl : pcs.length = np) (hr : Rd w B Ap (pcCells pcs)) (hB : B ≤ w.heap.size) (hn9 : nm.size ≤ 1000000000) (hp9 : np ≤ 1000000000) :
    Calls Try.prog 13 #[trackV nm Ap np cp, syV s] w (BothPost w nm pcs s) := by
  have hb0 : Below w.heap.size w (w.alloc (.cells #[.string nm, .slice Ap np cp] 42)) := (Below.refl _ _).alloc (Nat.le_refl _) _
  have hb : Below w.heap.size w ((w.alloc (.cells #[.string nm, .slice Ap np cp] 42)).alloc (.cells #[.int .i64 s.brake, .int .i64 s.drag, .int .i64 s.drive] 44)) := hb0.alloc hb0.size _
  have k0 : ((w.alloc (.cells #[.string nm, .slice Ap np cp] 42)).alloc (.cells #[.int .i64 s.brake, .int .i64 s.drag, .int .i64 s.drive] 44)).heap[w.heap.size]? = some (.cells #[.string nm, .slice Ap np cp] 42 (0, 0)) := by rw [heapq_alloc, if_neg (by simp), heapq_alloc, if_pos rfl]
  have k1 : ((w.alloc (.cells #[.string nm, .slice Ap np cp] 42)).alloc (.cells #[.int .i64 s.brake, .int .i64 s.drag, .int .i64 s.drive] 44)).heap[w.heap.size + 1]? = some (.cells #[.int .i64 s.brake, .int .i64 s.drag, .int .i64 s.drive] 44 (0, 0)) := by rw [heapq_alloc, if_pos (by simp)]
  have TE := TrackErr_any _ B nm Ap np cp pcs hl (hr.below (hb.mono hB)) (Nat.le_trans hB hb.size) hn9 hp9
  have SE := fun W => refCheckSystem_any W s
  have hs := hb.size
  have HB := Lib.hid hb
  clear hb0 hb hr
  unfold trackV at TE ⊢
  unfold syV at SE ⊢
  go_enter Try.func13, Try.ntmps13
  go_upto_region 1 with (fail)
  generalize ((w.alloc (.cells #[.string nm, .slice Ap np cp] 42)).alloc (.cells #[.int .i64 s.brake, .int .i64 s.drag, .int .i64 s.drive] 44)) = w0 at *
  obtain ⟨c0, c1⟩ := cells2 k0
  go_upto_region 2 with (go_at_call 37; refine TE.mono ?_; rintro e w1 ⟨E, rfl, hb1, hE⟩)
  replace k1 := blk hb1 k1
  obtain ⟨d0, d1, d2⟩ := cells3w k1
  have HB1 := Lib.hid (HB.out.trans (hb1.mono hs))
  have hs1 := Nat.le_trans hs hb1.size
  clear hb1 c0 c1 k0 k1
  by_cases h0 : E = 0
  · subst h0
    go_wp2_with (go_at_call 38; refine (SE _).mono ?_; rintro e w2 ⟨F, rfl, hb2, hF⟩)
    go_ret
    exact ⟨F, rfl, HB1.out.trans (hb2.mono hs1), fun h => ⟨hE trivial, hF h⟩⟩
  · have h0' : (E != 0) = true := bne_iff_ne.2 h0
    go_wp2
    go_ret
    exact ⟨E, rfl, HB1.out, fun h => absurd h h0⟩
end Go.Proofs.Ytnnnpijepdjanaa

namespace Go.Proofs.Ytnnnpijepdjanaa
open Go.RowKit

def SqR (np : Nat) (l : List Int) : Prop := l.length = np + 1 ∧ ∀ x ∈ l, 0 ≤ x ∧ x ≤ 20000000000
def SqPost (w : World) (np : Nat) (l : List Int) (e : Ending) (w' : World) : Prop := ∃ E : Int, e = .returned (.int .i64 E) ∧ Below w.heap.size w w' ∧ (E = 0 ↔ SqR np l)
def SeRel (w0 : World) (l : List Int) (n : Nat) (u : Value) (wr : World) : Prop := ∃ k : Nat, k ≤ n ∧ u = .int .i64 k ∧ (∀ x ∈ l.take k, 0 ≤ x ∧ x ≤ 20000000000) ∧ Below w0.heap.size w0 wr
set_option maxRecDepth 100000 in
theorem SquaresErr_any (w : World) (B : Nat) (nm : ByteArray) (Ap : Option Addr) (np cp : Nat) (As : Option Addr) (ns cs : Nat) (l : List Int) (hl : l.length = ns) (hr : Rd w B As (intCells l)) (hB : B ≤ w.heap.size) (hp9 : np ≤ 1000000000) (hs9 : ns ≤ 1000000000) :
    Calls Try.prog 14 #[trackV nm Ap np cp, .slice As ns cs] w (SqPost w np l) := by
  have HL := Lib.hid hl
  have hb : Below w.heap.size w (w.alloc (.cells #[.string nm, .slice Ap np cp] 42)) := (Below.refl _ _).alloc (Nat.le_refl _) _
  have k0 : (w.alloc (.cells #[.string nm, .slice Ap np cp] 42)).heap[w.heap.size]? = some (.cells #[.string nm, .slice Ap np cp] 42 (0, 0)) := by rw [heapq_alloc, if_pos rfl]
  have hr0 := hr.below (hb.mono hB)
  have hB0 := Nat.le_trans hB hb.size
  have hs := hb.size
  have HB := Lib.hid hb
  obtain ⟨d0, d1⟩ := cells2 k0
  clear hr hB hb k0 hl
  unfold trackV
  go_enter Try.func14, Try.ntmps14
  go_upto_region 1 with (fail)
  generalize w.alloc (.cells #[.string nm, .slice Ap np cp] 42) = w0 at *
  by_cases h1 : ns = np + 1
  case neg =>
    have g1 : ((ns : Int) != (np : Int) + 1) = true := bne_iff_ne.2 (by omega)
    go_wp2
    go_ret
    exact ⟨10, rfl, HB.out, ⟨(by intro h; cases h), fun h => absurd (HL.out.symm.trans h.1) h1⟩⟩
  have g1 : ((ns : Int) != (np : Int) + 1) = false := bne_eq_false_iff_eq.2 (by omega)
  have H1 := Lib.hid h1
  clear h1
  go_wp2
  clear g1
  go_loopw [5] (fun u wr => SeRel w0 l ns u wr) (fun u _ => ns - (intOf u).toNat)
  case atStart => exact ⟨0, Nat.zero_le _, rfl, fun x hx => by simp at hx, Below.refl _ _⟩
  case round =>
    obtain ⟨k, hk, rfl, hok, hb⟩ := hrel
    have HOK := Lib.hid hok
    have HBR := Lib.hid hb
    have hrR := hr0.below (hb.mono hB0)
    clear hok hb
    by_cases hlt : k < ns
    · obtain ⟨x, hx⟩ : ∃ x, l[k]? = some x := ⟨_, List.getElem?_eq_getElem (by rw [HL.out]; exact hlt)⟩
      obtain ⟨b, off, hAs, _, c0⟩ := hrR k (.int .i64 x) (by simp [intCells, hx])
      have HX := Lib.hid (take_snoc hx)
      have HM := Lib.hid (List.mem_of_getElem? hx)
      subst hAs
      clear hx hrR
      obtain ⟨b0, h0⟩ : ∃ y, withinB x 0 20000000000 = y := ⟨_, rfl⟩
      have W0 := fun W => Within_val x 0 20000000000 b0 h0 W
      have H0 := Lib.hid h0
      clear h0
      cases b0 with
      | false =>
        go_wp2_with (go_at_call 15; refine (W0 _).mono ?_; rintro e w' ⟨rfl, rfl⟩)
        go_ret
        refine ⟨2, rfl, HB.out.trans (HBR.out.mono hs), ⟨(by intro h; cases h), fun h => ?_⟩⟩
        have := withinB_iff.2 (h.2 x HM.out)
        rw [H0.out] at this
        cases this
      | true =>
        go_wp2_with (go_at_call 15; refine (W0 _).mono ?_; rintro e w' ⟨rfl, rfl⟩)
        go_roundw
        case rel =>
          refine ⟨k + 1, hlt, by go_num, fun y hy => ?_, HBR.out⟩
          rw [HX.out, List.mem_append, List.mem_singleton] at hy
          rcases hy with hy | rfl
          · exact HOK.out y hy
          · exact withinB_iff.1 H0.out
        case measure => simp [intOf]; omega
    · obtain rfl : k = ns := by omega
      clear hrR
      go_wp2
      go_ret
      exact ⟨0, rfl, HB.out.trans (HBR.out.mono hs), ⟨fun _ => ⟨HL.out.trans H1.out, fun y hy => HOK.out y (by rw [List.take_of_length_le (by rw [HL.out]; exact Nat.le_refl _)]; exact hy)⟩, fun _ => rfl⟩⟩
def TrkCopied (w : World) (nm : ByteArray) (np : Nat) (pcs : List Pc) (e : Ending) (w' : World) : Prop :=
  ∃ A c, e = .returned (trackV nm A np c) ∧ Rd w' w'.heap.size A (pcCells pcs) ∧ Below w.heap.size w w'
theorem info110 : (Try.prog.info? 110).map (fun i => (i.zero, i.size, i.bytes)) = some (some (.agg #[.int .i64 0, .int .i64 0, .int .i64 0, .bool false]), 4, 32) := by kernel_rfl
theorem pcCells_one (l : List Pc) : ∀ u ∈ pcCells l, u.oneCell' = true := by
  intro u hu
  rw [pcCells, List.mem_flatMap] at hu
  obtain ⟨a, _, ha⟩ := hu
  simp only [pcVals, List.mem_cons, List.not_mem_nil, or_false] at ha
  rcases ha with rfl | rfl | rfl | rfl <;> rfl
set_option maxRecDepth 100000 in
set_option maxHeartbeats 4000000 in
theorem trkCopy_any (w : World) (B : Nat) (nm : ByteArray) (Ap : Option Addr) (np cp : Nat) (pcs : List Pc) (hl : pcs.length = np) (hn : np ≤ 1000000) (hr : Rd w B Ap (pcCells pcs)) (hB : B ≤ w.heap.size) :
    Calls Try.prog 17 #[trackV nm Ap np cp] w (TrkCopied w nm np pcs) := by
  obtain ⟨i1, hi1, hy0, hy1, hy2⟩ := info_parts info110
  have hb0 : Below w.heap.size w ((w.alloc (.cells #[.string nm, .slice Ap np cp] 42)).alloc (.cells #[.string ⟨#[]⟩, .slice none 0 0] 42)) := ((Below.refl _ _).alloc (Nat.le_refl _) _).alloc (by simp) _
  have k0 : ((w.alloc (.cells #[.string nm, .slice Ap np cp] 42)).alloc (.cells #[.string ⟨#[]⟩, .slice none 0 0] 42)).heap[w.heap.size]? = some (.cells #[.string nm, .slice Ap np cp] 42 (0, 0)) := by
    rw [heapq_alloc, if_neg (by simp), heapq_alloc, if_pos rfl]
  have k1 : ((w.alloc (.cells #[.string nm, .slice Ap np cp] 42)).alloc (.cells #[.string ⟨#[]⟩, .slice none 0 0] 42)).heap[w.heap.size + 1]? = some (.cells #[.string ⟨#[]⟩, .slice none 0 0] 42 (0, 0)) := by
    rw [heapq_alloc, if_pos (by simp)]
  have hw0 := hr.below (hb0.mono hB)
  have hs1 := hb0.size
  have HB := Lib.hid hb0
  have HLW := Lib.hid hl
  have K1 := Lib.hid k1
  have hx1 := (Array.getElem?_eq_some_iff.1 k1).1
  obtain ⟨a0, a1⟩ := cells2 k0
  have HX := Lib.hid hx1
  clear hl hr hb0 k0 k1 hx1
  unfold trackV
  go_enter Try.func17, Try.ntmps17
  go_upto_region 1 with (fail)
  generalize ((w.alloc (.cells #[.string nm, .slice Ap np cp] 42)).alloc (.cells #[.string ⟨#[]⟩, .slice none 0 0] 42)) = W0 at *
  have hBW : B ≤ W0.heap.size := Nat.le_trans hB hs1
  generalize hx : w.heap.size = x at *
  have HXX := Lib.hid hx
  clear hx
  have x0 := fun y : Xt W0 => y.cell a0
  have x1 := fun y : Xt W0 => y.cell a1
  refine wp_region_eager [7] (fun w' => ∃ y : Xt W0, w' = y.1) (by kernel_rfl) ⟨⟨W0.drew, (Below.refl _ _).drew⟩, rfl⟩ ?_
  refine wpE_reads [0, 1, 3, 4] 4 rfl (by kernel_rfl) ?_
  simp only [opsAt_nil, opsAt_cons, consOpt_some, List.getElem?_toArray, List.getElem?_cons_zero, List.getElem?_cons_succ]
  repeat (go_big_quiet_step (fail))
  refine wpQuiet_nil ?_
  have hbd : Below W0.heap.size W0 W0.drew := (Below.refl _ _).drew
  show wpE _ _ _ _ _ _ _ _ _ W0.drew
  generalize W0.drew = wd at *
  clear x0 x1 a0 a1
  refine wpE_one (i := 2) rfl (by kernel_rfl) rfl ?_
  unfold wpMid
  simp only [opsAt_nil, opsAt_cons, consOpt_some, List.getElem?_toArray, List.getElem?_cons_zero, List.getElem?_cons_succ]
  go_wp2
  have hb03 : Below W0.heap.size W0 (wd.alloc (.cells #[] 110)) := hbd.alloc hbd.size _
  have gq : (wd.alloc (.cells #[] 110)).heap[wd.heap.size]? = some (.cells #[] 110 (0, 0)) := by rw [heapq_alloc, if_pos rfl]
  have hg : W0.heap.size ≤ wd.heap.size := hbd.size
  generalize wd.alloc (.cells #[] 110) = w3 at *
  generalize wd.heap.size = g at *
  refine onlyNormal_mk ⟨⟨⟨_, hb03⟩, rfl⟩, ?_⟩
  refine wpE_one (i := 5) rfl (by kernel_rfl) rfl ?_
  unfold wpMid
  simp only [opsAt_nil, opsAt_cons, consOpt_some, List.getElem?_toArray, List.getElem?_cons_zero, List.getElem?_cons_succ]
  have hrd := hw0.below (hb03.mono hBW)
  have hgl := lt_of_block gq
  refine wpList_append_copy w3 rfl _ _ 40 rfl g 110 i1 _ 4 32 Try.underlying40 hi1 hy0 hy1 hy2 rfl (by omega) g rfl gq (Nat.le_refl _) B Ap np cp (pcCells pcs) rfl (by rw [pcCells_len, HLW.out]) hrd (pcCells_one pcs) (by simp only [maxLen]; omega) (by omega) (Nat.le_of_lt hgl) ?_
  intro G cG w4 hown hgrow _
  have hb4 : Below W0.heap.size W0 w4 := hb03.grown hgrow hb03.size (fun k hk => by rw [← Option.some.inj hk]; exact hg)
  have hG := ownBlk hown rfl
  have hk4 := (hb4.block (x + 1) HX.out).trans K1.out
  have RWW : Rd w4 w4.heap.size (some ⟨G, 0, none⟩) (pcCells pcs) ∧ w4.heap.size ≤ w4.heap.size ∧ ∀ (k : Nat) (u : Value), (pcCells pcs)[k]? = some u → ∀ b off, some (⟨G, 0, none⟩ : Addr) = some ⟨b, off, none⟩ → b ≠ x + 1 :=
    ⟨Rd_of_own hown, Nat.le_refl _, fun k u _ b off he => by
      simp only [Option.some.injEq, Addr.mk.injEq, and_true] at he
      have := HX.out
      have := hG.1
      omega⟩
  clear hrd hown hgrow
  refine onlyNormal_mk ⟨⟨⟨_, hb4⟩, rfl⟩, ?_⟩
  refine wpE_put (l' := [_, _, _, _, _, _, _, _, _, _]) rfl ?_
  refine wpE_reads5 [6] 1 rfl (by kernel_rfl) ?_
  simp only [opsAt_nil, opsAt_cons, consOpt_some, List.getElem?_toArray, List.getElem?_cons_zero, List.getElem?_cons_succ]
  repeat (go_big_quiet_step (fail))
  refine wpQuiet_nil ?_
  refine wpE_tail rfl (by kernel_rfl) ?_
  simp only [opsAt_nil, opsAt_cons, consOpt_some, List.getElem?_toArray, List.getElem?_cons_zero, List.getElem?_cons_succ]
  obtain ⟨t0, t1, q0, q1⟩ := res2 hk4
  have RW := Lib.hid RWW
  have HBE := Lib.hid (HB.out.trans (hb4.mono hs1))
  clear hk4 hb4 RWW
  go_wp2
  refine onlyNormal_mk ?_
  go_wp2
  refine bodyPost_ret (v := .agg #[.string nm, .slice (some ⟨G, 0, none⟩) np cG]) (by simp [results, Try.results17, go_sem, t0, t1]) rfl ⟨_, cG, rfl, ?_, ?_⟩
  · exact rd_set2 RW.out
  · rw [HXX.out]
    exact (HBE.out.setCell (p := ⟨x + 1, 0, none⟩) (Nat.le_add_right x 1) _).setCell (p := ⟨x + 1, 1, none⟩) (Nat.le_add_right x 1) _
end Go.Proofs.Ytnnnpijepdjanaa

namespace Go.Proofs.Ytnnnpijepdjanaa
open Go.RowKit

def rideV (nm : ByteArray) (Ap : Option Addr) (np cp : Nat) (s : Sy) : Value := .agg #[.string nm, .slice Ap np cp, .int .i64 s.brake, .int .i64 s.drag, .int .i64 s.drive]
structure TrkAt (w : World) (B : Nat) (Ap : Option Addr) (np : Nat) (nm : ByteArray) (pcs : List Pc) : Prop where
  lp : pcs.length = np
  rp : Rd w B Ap (pcCells pcs)
  R : TrkR nm pcs
  z : nm.size ≤ 1000000000
theorem TrkAt.below {w w' : World} {B np : Nat} {Ap : Option Addr} {nm : ByteArray} {pcs : List Pc} (h : TrkAt w B Ap np nm pcs) (hb : Below B w w') : TrkAt w' B Ap np nm pcs := ⟨h.lp, h.rp.below hb, h.R, h.z⟩
theorem TrkAt.mono {w : World} {B B' np : Nat} {Ap : Option Addr} {nm : ByteArray} {pcs : List Pc} (h : TrkAt w B Ap np nm pcs) (hB : B ≤ B') : TrkAt w B' Ap np nm pcs := ⟨h.lp, h.rp.mono hB, h.R, h.z⟩
/-- what a train with a deceleration on the level loses along a piece -/
def lose (dec : Int) (p : Pc) : Int := 2 * (dec + 10 * p.grad) * p.len
theorem lose_bound {dec : Int} {p : Pc} (hd : -3000 ≤ dec ∧ dec ≤ 3000) (hp : PcR p) : -80000000000 ≤ lose dec p ∧ lose dec p ≤ 80000000000 := by
  obtain ⟨⟨h1, h2⟩, ⟨h3, h4⟩, _⟩ := hp
  unfold lose
  have a0 : -8000 ≤ 2 * (dec + 10 * p.grad) := by omega
  have a1 : 2 * (dec + 10 * p.grad) ≤ 8000 := by omega
  generalize 2 * (dec + 10 * p.grad) = a at *
  generalize p.len = l at *
  constructor
  · have := Int.mul_le_mul_of_nonneg_right a0 (show 0 ≤ l by omega)
    omega
  · have := Int.mul_le_mul_of_nonneg_right a1 (show 0 ≤ l by omega)
    omega
set_option maxRecDepth 100000 in
theorem loses_any (w : World) (B : Nat) (Ap : Option Addr) (np cp : Nat) (nm : ByteArray) (pcs : List Pc) (s : Sy) (h : TrkAt w B Ap np nm pcs) (hB : B ≤ w.heap.size) (i : Nat) (p : Pc) (hi : pcs[i]? = some p) (dec : Int) (hd : -3000 ≤ dec ∧ dec ≤ 3000) :
    Calls Try.prog 71 #[rideV nm Ap np cp s, .int .i64 dec, .int .i64 i] w fun e w' => e = .returned (.int .i64 (lose dec p)) ∧ Below w.heap.size w w' := by
  have hin : i < np := by rw [← h.lp]; exact (List.getElem?_eq_some_iff.1 hi).1
  have hn12 : np ≤ 12 := by rw [← h.lp]; exact h.R.l2
  have hPR := h.R.p p (List.mem_of_getElem? hi)
  have hlb := lose_bound hd hPR
  obtain ⟨hp1, hp2, _⟩ := hPR
  have hb : Below w.heap.size w (w.alloc (.cells #[.string nm, .slice Ap np cp, .int .i64 s.brake, .int .i64 s.drag, .int .i64 s.drive] 99)) := (Below.refl _ _).alloc (Nat.le_refl _) _
  have k0 : (w.alloc (.cells #[.string nm, .slice Ap np cp, .int .i64 s.brake, .int .i64 s.drag, .int .i64 s.drive] 99)).heap[w.heap.size]? = some (.cells #[.string nm, .slice Ap np cp, .int .i64 s.brake, .int .i64 s.drag, .int .i64 s.drive] 99 (0, 0)) := by rw [heapq_alloc, if_pos rfl]
  have hr0 := h.rp.below (hb.mono hB)
  have HB := Lib.hid hb
  have hs := hb.size
  obtain ⟨d0, d1, d2, d3, d4⟩ := cells5w k0
  obtain ⟨b, off, hAp, _, c0, c1, c2, c3⟩ := hr0.pc hi
  subst hAp
  obtain ⟨xl, xg, xm, xv⟩ := p
  unfold lose at hlb ⊢
  simp only at c0 c1 c2 c3 hlb hp1 hp2 ⊢
  clear hr0 hi hb k0 h
  unfold rideV
  go_enter Try.func71, Try.ntmps71
  go_upto_region 1 with (fail)
  generalize w.alloc (.cells #[.string nm, .slice (some ⟨b, off, none⟩) np cp, .int .i64 s.brake, .int .i64 s.drag, .int .i64 s.drive] 99) = w0 at *
  have kp : (w0.alloc (.cells #[.int .i64 xl, .int .i64 xg, .int .i64 xm, .bool xv] 110)).heap[w0.heap.size]? = some (.cells #[.int .i64 xl, .int .i64 xg, .int .i64 xm, .bool xv] 110 (0, 0)) := by rw [heapq_alloc, if_pos rfl]
  have hb1 : Below w0.heap.size w0 (w0.alloc (.cells #[.int .i64 xl, .int .i64 xg, .int .i64 xm, .bool xv] 110)) := (Below.refl _ _).alloc (Nat.le_refl _) _
  go_upto_region 2 with (fail)
  have HB1 := Lib.hid (HB.out.trans (hb1.mono hs))
  clear c0 c1 c2 c3 hb1 d0 d1 d2 d3 d4
  generalize w0.alloc (.cells #[.int .i64 xl, .int .i64 xg, .int .i64 xm, .bool xv] 110) = w1 at *
  generalize w0.heap.size = g1 at *
  obtain ⟨c0, c1, c2, c3⟩ := cells4w kp
  clear kp
  go_wp2
  go_ret
  exact ⟨rfl, HB1.out⟩
theorem ride_alloc (w : World) (nm : ByteArray) (Ap : Option Addr) (np cp : Nat) (s : Sy) (t : TypeId) :
    Below w.heap.size w (w.alloc (.cells #[.string nm, .slice Ap np cp, .int .i64 s.brake, .int .i64 s.drag, .int .i64 s.drive] t)) ∧ (w.alloc (.cells #[.string nm, .slice Ap np cp, .int .i64 s.brake, .int .i64 s.drag, .int .i64 s.drive] t)).heap[w.heap.size]? = some (.cells #[.string nm, .slice Ap np cp, .int .i64 s.brake, .int .i64 s.drag, .int .i64 s.drive] t (0, 0)) :=
  ⟨(Below.refl _ _).alloc (Nat.le_refl _) _, by rw [heapq_alloc, if_pos rfl]⟩
set_option maxRecDepth 100000 in
theorem braked_any (w : World) (B : Nat) (Ap : Option Addr) (np cp : Nat) (nm : ByteArray) (pcs : List Pc) (s : Sy) (h : TrkAt w B Ap np nm pcs) (hB : B ≤ w.heap.size) (hs : SyR s) (i : Nat) (p : Pc) (hi : pcs[i]? = some p) :
    Calls Try.prog 51 #[rideV nm Ap np cp s, .int .i64 i] w fun e w' => e = .returned (.int .i64 (lose s.brake p)) ∧ Below w.heap.size w w' := by
  obtain ⟨hb, k0⟩ := ride_alloc w nm Ap np cp s 99
  have LS := fun (W : World) (hb : Below w.heap.size w W) => loses_any W B Ap np cp nm pcs s (h.below (hb.mono hB)) (Nat.le_trans hB hb.size) i p hi s.brake (by have := hs.1; omega)
  have LS1 := LS _ hb
  obtain ⟨d0, d1, d2, d3, d4⟩ := cells5w k0
  have HB := Lib.hid hb
  have hsz := hb.size
  clear LS hb k0
  unfold rideV at LS1 ⊢
  go_enter Try.func51, Try.ntmps51
  go_upto_region 1 with (fail)
  generalize w.alloc (.cells #[.string nm, .slice Ap np cp, .int .i64 s.brake, .int .i64 s.drag, .int .i64 s.drive] 99) = w0 at *
  go_wp2_with (go_at_call 71; refine LS1.mono ?_; rintro e w' ⟨rfl, hb1⟩)
  go_ret
  exact ⟨rfl, HB.out.trans (hb1.mono hsz)⟩
set_option maxRecDepth 100000 in
theorem driven_any (w : World) (B : Nat) (Ap : Option Addr) (np cp : Nat) (nm : ByteArray) (pcs : List Pc) (s : Sy) (h : TrkAt w B Ap np nm pcs) (hB : B ≤ w.heap.size) (hs : SyR s) (i : Nat) (p : Pc) (hi : pcs[i]? = some p) :
    Calls Try.prog 46 #[rideV nm Ap np cp s, .int .i64 i] w fun e w' => e = .returned (.int .i64 (-(lose (-s.drive) p))) ∧ Below w.heap.size w w' := by
  obtain ⟨hb, k0⟩ := ride_alloc w nm Ap np cp s 99
  have hdr : -3000 ≤ -s.drive ∧ -s.drive ≤ 3000 := by have := hs.2.2.1; omega
  have hd3 := hs.2.2.1
  have hlb := lose_bound hdr (h.R.p p (List.mem_of_getElem? hi))
  have LS := fun (W : World) (hb : Below w.heap.size w W) => loses_any W B Ap np cp nm pcs s (h.below (hb.mono hB)) (Nat.le_trans hB hb.size) i p hi (-s.drive) hdr
  have LS1 := LS _ hb
  obtain ⟨d0, d1, d2, d3, d4⟩ := cells5w k0
  have HB := Lib.hid hb
  have hsz := hb.size
  clear LS hb k0
  generalize lose (-s.drive) p = L at *
  unfold rideV at LS1 ⊢
  go_enter Try.func46, Try.ntmps46
  go_upto_region 1 with (fail)
  generalize w.alloc (.cells #[.string nm, .slice Ap np cp, .int .i64 s.brake, .int .i64 s.drag, .int .i64 s.drive] 99) = w0 at *
  go_wp2_with (go_at_call 71; refine LS1.mono ?_; rintro e w' ⟨rfl, hb1⟩)
  go_ret
  exact ⟨rfl, HB.out.trans (hb1.mono hsz)⟩
set_option maxRecDepth 100000 in
theorem last_any (w : World) (nm : ByteArray) (Ap : Option Addr) (np cp : Nat) :
    Calls Try.prog 45 #[trackV nm Ap np cp] w fun e w' => e = .returned (.int .i64 np) ∧ Below w.heap.size w w' := by
  have hb : Below w.heap.size w (w.alloc (.cells #[.string nm, .slice Ap np cp] 97)) := (Below.refl _ _).alloc (Nat.le_refl _) _
  have k0 : (w.alloc (.cells #[.string nm, .slice Ap np cp] 97)).heap[w.heap.size]? = some (.cells #[.string nm, .slice Ap np cp] 97 (0, 0)) := by rw [heapq_alloc, if_pos rfl]
  obtain ⟨d0, d1⟩ := cells2 k0
  have HB := Lib.hid hb
  clear hb k0
  unfold trackV
  go_enter Try.func45, Try.ntmps45
  go_upto_region 1 with (fail)
  generalize w.alloc (.cells #[.string nm, .slice Ap np cp] 97) = w0 at *
  go_wp2
  go_ret
  exact ⟨rfl, HB.out⟩
set_option maxRecDepth 100000 in
theorem bkCheckSystem_right (w : World) (s : Sy) (hs : SyR s) : Calls Try.prog 68 #[syV s] w fun e w' => e = .returned (.int .i64 0) ∧ Below w.heap.size w w' := by
  obtain ⟨b, d, v⟩ := s
  obtain ⟨h0, h1, h2, h3⟩ := hs
  simp only at h0 h1 h2 h3
  have W0 := fun W => bkWithin_val b 1 3000 true (withinB_iff.2 h0) W
  have W1 := fun W => bkWithin_val d 0 500 true (withinB_iff.2 h1) W
  have W2 := fun W => bkWithin_val v 0 2000 true (withinB_iff.2 h2) W
  have k0 : (w.alloc (.cells #[.int .i64 b, .int .i64 d, .int .i64 v] 44)).heap[w.heap.size]? = some (.cells #[.int .i64 b, .int .i64 d, .int .i64 v] 44 (0, 0)) := by rw [heapq_alloc, if_pos rfl]
  have hb : Below w.heap.size w (w.alloc (.cells #[.int .i64 b, .int .i64 d, .int .i64 v] 44)) := (Below.refl _ _).alloc (Nat.le_refl _) _
  have HB := Lib.hid hb
  have hsz := hb.size
  obtain ⟨c0, c1, c2⟩ := cells3w k0
  have t3 : decide (d ≤ b) = true := decide_eq_true h3
  clear k0 hb
  unfold syV
  go_enter Try.func68, Try.ntmps68
  go_upto_region 1 with (fail)
  generalize w.alloc (.cells #[.int .i64 b, .int .i64 d, .int .i64 v] 44) = w0 at *
  go_upto_region 2 with (first | (go_at_call 50; refine (W0 _).mono ?_; rintro e w' ⟨rfl, rfl⟩; clear W0) | (go_at_call 50; refine (W1 _).mono ?_; rintro e w' ⟨rfl, rfl⟩; clear W1) | (go_at_call 50; refine (W2 _).mono ?_; rintro e w' ⟨rfl, rfl⟩))
  have x0 := fun x : Xt w0 => x.cell c0
  have x1 := fun x : Xt w0 => x.cell c1
  refine wp_region_cut [] [0, 1, 2, 3, 4, 5, 6, 7] 8 [9, 10] (fun w' => ∃ y : Xt w0, w' = y.1) (by kernel_rfl) (by kernel_rfl) ⟨⟨w0.drew, (Below.refl _ _).drew⟩, rfl⟩ ?_
  simp only [opsAt_nil, opsAt_cons, consOpt_some, List.getElem?_toArray, List.getElem?_cons_zero, List.getElem?_cons_succ]
  refine wpQuiet_nil ?_
  show wpQuiet _ _ _ _ _ _
  repeat (go_big_quiet_step (first | (go_at_call 41; exact Xt.calls_same (bkUnless_yes _ _))))
  refine wpQuiet_nil ?_
  intro w3 hx
  have hbX := Xt.below hx
  clear hx x0 x1
  have F4 := bkFirst2 w3
  go_wp2_with (go_at_call 40; refine F4.mono ?_; rintro e w' ⟨rfl, rfl⟩)
  refine onlyNormal_mk ?_
  have HB3 := Lib.hid (HB.out.trans ((hbX.alloc hbX.size (.cells #[.int .i64 0, .int .i64 0] 31)).mono hsz))
  clear hbX F4
  go_wp2
  go_ret
  exact ⟨rfl, HB3.out⟩
end Go.Proofs.Ytnnnpijepdjanaa

namespace Go.Proofs.Ytnnnpijepdjanaa
open Go.RowKit

set_option maxRecDepth 100000 in
set_option maxHeartbeats 4000000 in
theorem bkCheckTrack_right (w : World) (B : Nat) (Ap : Option Addr) (np cp : Nat) (nm : ByteArray) (pcs : List Pc) (h : TrkAt w B Ap np nm pcs) (hB : B ≤ w.heap.size) :
    Calls Try.prog 72 #[trackV nm Ap np cp] w fun e w' => e = .returned (.tuple #[.int .i64 0, .int .i64 0]) ∧ Below w.heap.size w w' := by
  have hn1 : 1 ≤ np := by rw [← h.lp]; exact h.R.l1
  have hn12 : np ≤ 12 := by rw [← h.lp]; exact h.R.l2
  have HL := Lib.hid h.lp
  have HP := Lib.hid h.R.p
  have NM := fun W => bkName_any nm h.z W
  rw [h.R.n] at NM
  have hb : Below w.heap.size w (w.alloc (.cells #[.string nm, .slice Ap np cp] 42)) := (Below.refl _ _).alloc (Nat.le_refl _) _
  have k0 : (w.alloc (.cells #[.string nm, .slice Ap np cp] 42)).heap[w.heap.size]? = some (.cells #[.string nm, .slice Ap np cp] 42 (0, 0)) := by rw [heapq_alloc, if_pos rfl]
  have hr0 := h.rp.below (hb.mono hB)
  have hB0 := Nat.le_trans hB hb.size
  have hs := hb.size
  have HB := Lib.hid hb
  obtain ⟨d0, d1⟩ := cells2 k0
  have t1 : decide ((0 : Int) < (np : Int)) = true := decide_eq_true (by omega)
  have t1' : decide (0 < np) = true := decide_eq_true (by omega)
  have t2 : decide ((np : Int) ≤ 12) = true := decide_eq_true (by omega)
  have t2' : decide (np ≤ 12) = true := decide_eq_true (by omega)
  clear h hb k0
  unfold trackV
  go_enter Try.func72, Try.ntmps72
  go_upto_region 1 with (fail)
  generalize w.alloc (.cells #[.string nm, .slice Ap np cp] 42) = w0 at *
  have x0 := fun x : Xt w0 => x.cell d0
  have x1 := fun x : Xt w0 => x.cell d1
  refine wp_region_cut [] [0, 1, 2, 3, 4, 5, 6, 7, 8, 9, 10, 11, 12, 13] 14 [15, 16] (fun w' => ∃ y : Xt w0, w' = y.1) (by kernel_rfl) (by kernel_rfl) ⟨⟨w0.drew, (Below.refl _ _).drew⟩, rfl⟩ ?_
  simp only [opsAt_nil, opsAt_cons, consOpt_some, List.getElem?_toArray, List.getElem?_cons_zero, List.getElem?_cons_succ]
  refine wpQuiet_nil ?_
  show wpQuiet _ _ _ _ _ _
  repeat (go_big_quiet_step (first | (go_at_call 41; exact Xt.calls_same (bkUnless_yes _ _)) | (go_at_call 92; exact Xt.calls (NM _))))
  refine wpQuiet_nil ?_
  intro w3 hx
  have hbX := Xt.below hx
  clear hx x0 x1 NM t1 t1' t2 t2'
  have F4 := bkFirst3 w3
  go_wp2_with (go_at_call 40; refine F4.mono ?_; rintro e w' ⟨rfl, rfl⟩)
  refine onlyNormal_mk ?_
  have hb3 := hbX.alloc hbX.size (.cells #[.int .i64 0, .int .i64 0, .int .i64 0] 31)
  clear F4 hbX
  generalize w3.alloc (.cells #[.int .i64 0, .int .i64 0, .int .i64 0] 31) = w4 at *
  have HB4 := Lib.hid (HB.out.trans (hb3.mono hs))
  replace d0 := kept hb3 d0
  replace d1 := kept hb3 d1
  have hr4 := hr0.below (hb3.mono hB0)
  have hB4 := Nat.le_trans hB0 hb3.size
  have hs4 := Nat.le_trans hs hb3.size
  clear hb3 hr0 HB
  go_wp2
  go_loopw [29] (fun u wr => ∃ k : Nat, k ≤ np ∧ u = .int .i64 k ∧ Below w4.heap.size w4 wr) (fun u _ => np - (intOf u).toNat)
  case atStart => exact ⟨0, Nat.zero_le _, rfl, Below.refl _ _⟩
  case round =>
    obtain ⟨k, hk, rfl, hb⟩ := hrel
    have HBR := Lib.hid hb
    have hsr := hb.size
    have hrR := hr4.below (hb.mono hB4)
    replace d0 := kept hb d0
    replace d1 := kept hb d1
    clear hb
    by_cases hlt : k < np
    · obtain ⟨x, hx⟩ : ∃ x, pcs[k]? = some x := ⟨_, List.getElem?_eq_getElem (by rw [HL.out]; exact hlt)⟩
      obtain ⟨b, off, hAp, _, c0, c1, c2, c3⟩ := hrR.pc hx
      obtain ⟨p0, p1, p2⟩ := HP.out x (List.mem_of_getElem? hx)
      subst hAp
      obtain ⟨xl, xg, xm, xv⟩ := x
      simp only at c0 c1 c2 c3 p0 p1 p2
      have W0 := fun W => bkWithin_val xl 1 10000000 true (withinB_iff.2 p0) W
      have W1 := fun W => bkWithin_val xg (-100) 100 true (withinB_iff.2 p1) W
      have W2 := fun W => isSquare_val xm true (withinB_iff.2 p2) W
      clear hx hrR
      have kp : (wr.alloc (.cells #[.int .i64 xl, .int .i64 xg, .int .i64 xm, .bool xv] 110)).heap[wr.heap.size]? = some (.cells #[.int .i64 xl, .int .i64 xg, .int .i64 xm, .bool xv] 110 (0, 0)) := by rw [heapq_alloc, if_pos rfl]
      have hb1 : Below wr.heap.size wr (wr.alloc (.cells #[.int .i64 xl, .int .i64 xg, .int .i64 xm, .bool xv] 110)) := (Below.refl _ _).alloc (Nat.le_refl _) _
      go_upto_region 7 with (fail)
      have HB1 := Lib.hid (HBR.out.trans (hb1.mono hsr))
      clear c0 c1 c2 c3 hb1 d0 d1
      generalize wr.alloc (.cells #[.int .i64 xl, .int .i64 xg, .int .i64 xm, .bool xv] 110) = w1 at *
      generalize wr.heap.size = g1 at *
      obtain ⟨c0, c1, c2, c3⟩ := cells4w kp
      clear kp
      go_wp2_with (first | (go_at_call 50; refine (W0 _).mono ?_; rintro e w' ⟨rfl, rfl⟩; clear W0) | (go_at_call 50; refine (W1 _).mono ?_; rintro e w' ⟨rfl, rfl⟩; clear W1) | (go_at_call 42; refine (W2 _).mono ?_; rintro e w' ⟨rfl, rfl⟩))
      go_roundw
      case rel => exact ⟨k + 1, hlt, by go_num, HB1.out⟩
      case measure => simp [intOf]; omega
    · obtain rfl : k = np := by omega
      clear hrR
      go_wp2
      refine bodyPost_ret (v := .tuple #[.int .i64 0, .int .i64 0]) (by simp [results, Try.results72, go_sem]) rfl ⟨rfl, HB4.out.trans (HBR.out.mono hs4)⟩
set_option maxRecDepth 100000 in
theorem bkOpen_right (w : World) (B : Nat) (Ap : Option Addr) (np cp : Nat) (nm : ByteArray) (pcs : List Pc) (h : TrkAt w B Ap np nm pcs) (hB : B ≤ w.heap.size) :
    Calls Try.prog 47 #[trackV nm Ap np cp] w fun e w' => e = .returned (.tuple #[trackV nm Ap np cp, .int .i64 0]) ∧ Below w.heap.size w w' := by
  have CN := fun (W : World) (hb : Below w.heap.size w W) => bkCheckTrack_right W B Ap np cp nm pcs (h.below (hb.mono hB)) (Nat.le_trans hB hb.size)
  have k0 : ((w.alloc (.cells #[.string nm, .slice Ap np cp] 42)).alloc (.cells #[.string ⟨#[]⟩, .slice none 0 0] 97)).heap[w.heap.size]? = some (.cells #[.string nm, .slice Ap np cp] 42 (0, 0)) := by
    rw [heapq_alloc, if_neg (by simp), heapq_alloc, if_pos rfl]
  have k1 : ((w.alloc (.cells #[.string nm, .slice Ap np cp] 42)).alloc (.cells #[.string ⟨#[]⟩, .slice none 0 0] 97)).heap[w.heap.size + 1]? = some (.cells #[.string ⟨#[]⟩, .slice none 0 0] 97 (0, 0)) := by
    rw [heapq_alloc, if_pos (by simp)]
  have hb0 : Below w.heap.size w ((w.alloc (.cells #[.string nm, .slice Ap np cp] 42)).alloc (.cells #[.string ⟨#[]⟩, .slice none 0 0] 97)) := ((Below.refl _ _).alloc (Nat.le_refl _) _).alloc (by simp) _
  have CN1 := CN _ hb0
  have hs := hb0.size
  have HB := Lib.hid hb0
  clear hb0 h CN
  unfold trackV at CN1 ⊢
  go_enter Try.func47, Try.ntmps47
  go_upto_region 1 with (fail)
  generalize ((w.alloc (.cells #[.string nm, .slice Ap np cp] 42)).alloc (.cells #[.string ⟨#[]⟩, .slice none 0 0] 97)) = w0 at *
  obtain ⟨d0, d1⟩ := cells2 k0
  go_upto_region 2 with (go_at_call 72; refine CN1.mono ?_; rintro e w2 ⟨rfl, hbA⟩; replace d0 := kept hbA d0; replace d1 := kept hbA d1; replace k1 := blk hbA k1; replace HB := Lib.hid (HB.out.trans (hbA.mono hs)); obtain ⟨r0, r1, q0, q1⟩ := res2 k1; clear hbA)
  go_wp2
  refine bodyPost_ret (v := .tuple #[.agg #[.string nm, .slice Ap np cp], .int .i64 0]) (by simp [results, Try.results47, go_sem, r0, r1]) rfl ⟨rfl, ?_⟩
  exact HB.out.trans (put2_below _ _ (Nat.le_succ _))
/-- a square that is out of range -/
def offS (t : Int) : Bool := !withinB t 0 20000000000
theorem offS_any (t : Int) (w : World) : Calls Try.prog 73 #[.int .i64 t] w fun e w' => e = .returned (.bool (offS t)) ∧ w = w' := by
  cases h : withinB t 0 20000000000
  all_goals
    go_enter Try.func73, Try.ntmps73
    go_wp2_with (go_at_call 42; refine (isSquare_val _ _ h _).mono ?_; rintro e w' ⟨rfl, rfl⟩)
    go_ret
    exact ⟨by rw [offS, h]; rfl, rfl⟩
theorem offS_val (t : Int) (b : Bool) (hb : offS t = b) (w : World) : Calls Try.prog 73 #[.int .i64 t] w fun e w' => e = .returned (.bool b) ∧ w = w' := by
  rw [← hb]
  exact offS_any t w
set_option maxRecDepth 100000 in
theorem IndexOffS_any (A : Option Addr) (n c B : Nat) (l : List Int) (w : World) (hn : n ≤ 1000000000) (hl : l.length = n) (h : Rd w B A (intCells l)) :
    Calls Try.prog 89 #[.slice A n c, .func (.func 73) #[] #[]] w fun e w' => e = .returned (.int .i64 (idxGo offS l 0)) ∧ w = w' := by
  have HL := Lib.hid hl; clear hl
  go_enter Try.func89, Try.ntmps89
  go_wp2
  go_loop [5, 8] (fun _ i => ∃ k : Nat, k ≤ n ∧ i = .int .i64 k ∧ idxGo offS (l.drop k) k = idxGo offS l 0) (fun _ i => n - (intOf i).toNat)
  case atStart => exact ⟨0, Nat.zero_le _, rfl, rfl⟩
  case round =>
    obtain ⟨k, hk, rfl, he⟩ := hrel
    have HE := Lib.hid he; clear he
    by_cases hlt : k < n
    · have hkl : k < l.length := by rw [HL.out]; exact hlt
      obtain ⟨b, off, rfl, _, hc⟩ := h.at_ (k := k) (u := .int .i64 (l[k]?.getD 0)) (by simp [intCells, hkl])
      have HS := Lib.hid (drop_at l 0 k hkl)
      clear hkl
      generalize l[k]?.getD 0 = x at *
      obtain ⟨q, hq⟩ : ∃ q, offS x = q := ⟨_, rfl⟩
      have C := fun W => offS_val x q hq W
      have HX := Lib.hid hq
      clear hq
      cases q with
      | true =>
        go_wp2_with (go_at_call 73; refine (C _).mono ?_; rintro e w' ⟨rfl, rfl⟩)
        go_ret
        exact ⟨by rw [← HE.out, HS.out, idxGo, HX.out]; rfl, rfl⟩
      | false =>
        go_wp2_with (go_at_call 73; refine (C _).mono ?_; rintro e w' ⟨rfl, rfl⟩)
        go_round
        case rel => exact ⟨k + 1, by omega, by go_num, by rw [← HE.out, HS.out, idxGo, HX.out]; rfl⟩
        case measure => simp [intOf]; omega
    · go_wp2
      go_ret
      have : l.drop k = [] := by rw [List.drop_eq_nil_iff]; rw [HL.out]; omega
      exact ⟨by rw [← HE.out, this]; rfl, rfl⟩
theorem ContainsOffS_any (A : Option Addr) (n c B : Nat) (l : List Int) (w : World) (hn : n ≤ 1000000000) (hl : l.length = n) (h : Rd w B A (intCells l)) :
    Calls Try.prog 61 #[.slice A n c, .func (.func 73) #[] #[]] w fun e w' => e = .returned (.bool (l.any offS)) ∧ w = w' := by
  have HV := Lib.hid (idxGo_nonneg offS l 0)
  go_enter Try.func61, Try.ntmps61
  go_wp2_with (go_at_call 89; refine (IndexOffS_any A n c B l _ hn hl h).mono ?_; rintro e w' ⟨rfl, rfl⟩)
  go_ret
  exact ⟨by rw [← HV.out]; rfl, rfl⟩

theorem squaresErr_right (w : World) (B : Nat) (nm : ByteArray) (Ap : Option Addr) (np cp : Nat) (A : Option Addr) (c : Nat) (l : List Int) (hn : np ≤ 1000000) (h : Rd w B A (intCells l)) (hB : B ≤ w.heap.size) (hR : SqR np l) :
    Calls Try.prog 48 #[trackV nm Ap np cp, .slice A (np + 1) c] w fun e w' => e = .returned (.int .i64 0) ∧ Below w.heap.size w w' := by
  have hb0 : Below w.heap.size w (w.alloc (.cells #[.string nm, .slice Ap np cp] 97)) := (Below.refl _ _).alloc (Nat.le_refl _) _
  have h0 := h.below (hb0.mono hB)
  have ha : l.any offS = false := by
    rw [List.any_eq_false]
    intro t ht
    have := hR.2 t ht
    simp [offS, withinB]
    omega
  have CO := fun (W : World) (hW : Rd W B A (intCells l)) => ContainsOffS_any A (np + 1) c B l W (by omega) hR.1 hW
  rw [ha] at CO
  have hs := hb0.size
  have HB := Lib.hid hb0
  have k0 : (w.alloc (.cells #[.string nm, .slice Ap np cp] 97)).heap[w.heap.size]? = some (.cells #[.string nm, .slice Ap np cp] 97 (0, 0)) := by rw [heapq_alloc, if_pos rfl]
  obtain ⟨d0, d1⟩ := cells2 k0
  have LA := fun W => last_any W nm Ap np cp
  clear hb0 k0 ha hR h
  unfold trackV at LA ⊢
  go_enter Try.func48, Try.ntmps48
  go_upto_region 1 with (fail)
  generalize w.alloc (.cells #[.string nm, .slice Ap np cp] 97) = w0 at *
  have CO0 := CO _ h0
  clear CO
  go_upto_region 2 with (go_at_call 61; refine CO0.mono ?_; rintro e w' ⟨rfl, rfl⟩)
  have g1 : (((np + 1 : Nat) : Int) == (np : Int) + 1) = true := beq_iff_eq.2 (by omega)
  go_wp2_with (first | (go_at_call 45; refine (LA _).mono ?_; rintro e w2 ⟨rfl, hb2⟩; have F2 := bkFirst2 w2) | (go_at_call 41; refine (bkUnless_yes _ _).mono ?_; rintro e w' ⟨rfl, rfl⟩) | (go_at_call 40; refine F2.mono ?_; rintro e w' ⟨rfl, rfl⟩))
  go_ret
  exact ⟨rfl, HB.out.trans ((hb2.alloc hb2.size _).mono hs)⟩
end Go.Proofs.Ytnnnpijepdjanaa

namespace Go.Proofs.Ytnnnpijepdjanaa
open Go
section
variable {P : Program} {ops : Array Oper} {md : Region.Mode} {S : World → Prop} {ts : List Nat} {Q : Exit → Go.Act → World → Prop}
def readKind7 (o : Oper) : Bool :=
  match o.op with
  | .call ⟨.builtin .max, _, _⟩ => true
  | .call ⟨.builtin .min, _, _⟩ => true
  | _ => readKind6 o
theorem wpIf_of_quiet7 {K : Go.Act → Prop} : ∀ (l : List Oper) (a : Go.Act), l.all readKind7 = true → wpQuiet P ops S K l a → wpIf P ops S K l a
  | [], _, _, h => h
  | o :: rest, a, hk, h => by
    simp only [List.all_cons, Bool.and_eq_true] at hk
    by_cases hr : readKind6 o = true
    · have h1 : wpQuiet P ops S (fun a' => wpIf P ops S K rest a') [o] a := by
        unfold wpQuiet at h ⊢
        split
        · rename_i hw
          rw [if_pos hw] at h
          obtain ⟨v, h1, h2⟩ := h
          exact ⟨v, h1, by unfold wpQuiet; exact wpIf_of_quiet7 rest _ hk.2 h2⟩
        · rename_i hw
          rw [if_neg hw] at h
          unfold wpQuiet
          exact wpIf_of_quiet7 rest _ hk.2 h
      exact wpIf_of_quiet6 [o] a (by simp [hr]) h1
    · have hp : (∃ x y, o.op = .call ⟨.builtin .max, x, y⟩) ∨ ∃ x y, o.op = .call ⟨.builtin .min, x, y⟩ := by
        have hk1 := hk.1
        unfold readKind7 at hk1
        split at hk1
        · rename_i x y hop
          exact .inl ⟨x, y, hop⟩
        · rename_i x y hop
          exact .inr ⟨x, y, hop⟩
        · exact absurd hk1 hr
      unfold wpQuiet at h
      by_cases hw : Region.wanted o (yielded ops a.tmps) = true
      · rw [if_pos hw] at h
        obtain ⟨v, h1, h2⟩ := h
        refine ⟨v, .inl ⟨hw, fun w hS => ?_⟩, wpIf_of_quiet7 rest _ hk.2 h2⟩
        have h3 := h1 w hS
        unfold Oper.quietAt at h3
        have key : ∀ n w', (execOp a.eval o).run P w = .ok n w' → ∃ v, n = .value v := by
          intro n w' h
          obtain ⟨dst, op, type, pos, after, guard⟩ := o
          rcases hp with ⟨x, y, hop⟩ | ⟨x, y, hop⟩
          · obtain rfl : op = .call ⟨.builtin .max, x, y⟩ := hop
            simp only [execOp, resolve, invoke, builtin] at h
            simp only [Sem.run_bind, Sem.run_pure, Result.andThen] at h
            split at h
            · simp at h
              exact ⟨_, h.1.symm⟩
            · simp at h
          · obtain rfl : op = .call ⟨.builtin .min, x, y⟩ := hop
            simp only [execOp, resolve, invoke, builtin] at h
            simp only [Sem.run_bind, Sem.run_pure, Result.andThen] at h
            split at h
            · simp at h
              exact ⟨_, h.1.symm⟩
            · simp at h
        have hno : (∀ w', (execOp a.eval o).run P w ≠ .ok .skip w') ∧ ∀ f args w', (execOp a.eval o).run P w ≠ .ok (.enter f args) w' :=
          ⟨fun w' h => (by obtain ⟨v, hv⟩ := key _ _ h; cases hv), fun f args w' h => (by obtain ⟨v, hv⟩ := key _ _ h; cases hv)⟩
        generalize hr : (execOp a.eval o).run P w = r at h3 hno
        cases r with
        | ok n w' =>
          cases n <;> simp only [Oper.quietUpon] at h3
          case value u => obtain ⟨e1, e2⟩ := h3; rw [e1, e2]
          case skip => exact (hno.1 w' rfl).elim
          case enter f args => exact (hno.2 f args w' rfl).elim
        | halt x w' => simp only [Oper.quietUpon] at h3
      · rw [if_neg hw] at h
        exact ⟨undef, .inr ⟨by simpa using hw, rfl⟩, wpIf_of_quiet7 rest _ hk.2 h⟩
theorem wpE_reads7 {m : Nat} {listed : Array Bool} {a : Go.Act} {w : World} (is : List Nat) (g : Nat) (hn : m = is.length + g)
    (hB : (Region.noSelect ops && hoistB md ops is listed && (ts.all fun t => waitsB md ops t is) && (opsAt ops is).all readKind7) = true)
    (h : wpQuiet P ops S (fun a' => wpE P md ops Q S ts g (listAll is listed) a' w) (opsAt ops is) a) : wpE P md ops Q S ts m listed a w := by
  intro inv hS
  simp only [Bool.and_eq_true] at hB
  obtain ⟨⟨⟨hsel, h1⟩, h2⟩, h4⟩ := hB
  rw [hn]
  refine wpAnyL_hoist hsel hS is _ a inv h1 (fun t ht i hi => ?_) (fun a' ha' => ha' (closed_listAll is _ inv h1) hS) (wpIf_of_quiet7 _ _ h4 h)
  have h6 := List.all_eq_true.1 h2 t (by simpa using ht)
  simp only [waitsB, List.all_eq_true] at h6 ⊢
  intro j hj
  have : j = i := by simpa using hj
  subst this
  exact h6 j hi
end
end Go.Proofs.Ytnnnpijepdjanaa

namespace Go.Proofs.Ytnnnpijepdjanaa
open Go.RowKit

theorem resv5 {W : World} {r t : Nat} {a0 a1 a2 a3 a4 : Value} (h : W.heap[r]? = some (.cells #[a0, a1, a2, a3, a4] t (0, 0))) :
    (W.cell? ⟨r, 0, none⟩ = some a0 ∧ W.cell? ⟨r, 1, none⟩ = some a1 ∧ W.cell? ⟨r, 2, none⟩ = some a2 ∧ W.cell? ⟨r, 3, none⟩ = some a3 ∧ W.cell? ⟨r, 4, none⟩ = some a4) ∧ (W.frozen? ⟨r, 0, none⟩ = false ∧ W.frozen? ⟨r, 1, none⟩ = false ∧ W.frozen? ⟨r, 2, none⟩ = false ∧ W.frozen? ⟨r, 3, none⟩ = false ∧ W.frozen? ⟨r, 4, none⟩ = false) :=
  ⟨cells5w h, frozen_of_row _ _ _ _ _ h, frozen_of_row _ _ _ _ _ h, frozen_of_row _ _ _ _ _ h, frozen_of_row _ _ _ _ _ h, frozen_of_row _ _ _ _ _ h⟩
theorem resv4 {W : World} {r t : Nat} {a0 a1 a2 a3 : Value} (h : W.heap[r]? = some (.cells #[a0, a1, a2, a3] t (0, 0))) :
    (W.cell? ⟨r, 0, none⟩ = some a0 ∧ W.cell? ⟨r, 1, none⟩ = some a1 ∧ W.cell? ⟨r, 2, none⟩ = some a2 ∧ W.cell? ⟨r, 3, none⟩ = some a3) ∧ (W.frozen? ⟨r, 0, none⟩ = false ∧ W.frozen? ⟨r, 1, none⟩ = false ∧ W.frozen? ⟨r, 2, none⟩ = false ∧ W.frozen? ⟨r, 3, none⟩ = false) :=
  ⟨cells4w h, frozen_of_row _ _ _ _ _ h, frozen_of_row _ _ _ _ _ h, frozen_of_row _ _ _ _ _ h, frozen_of_row _ _ _ _ _ h⟩
set_option maxRecDepth 100000 in
set_option maxHeartbeats 4000000 in
theorem openRide_right (w : World) (B : Nat) (Ap : Option Addr) (np cp : Nat) (nm : ByteArray) (pcs : List Pc) (s : Sy) (h : TrkAt w B Ap np nm pcs) (hB : B ≤ w.heap.size) (hS : SyR s) :
    Calls Try.prog 39 #[trackV nm Ap np cp, syV s] w fun e w' => e = .returned (.tuple #[rideV nm Ap np cp s, .int .i64 0]) ∧ Below w.heap.size w w' := by
  have OP := fun (W : World) (hb : Below w.heap.size w W) => bkOpen_right W B Ap np cp nm pcs (h.below (hb.mono hB)) (Nat.le_trans hB hb.size)
  have CS := fun W => bkCheckSystem_right W s hS
  have hb0 : Below w.heap.size w (((w.alloc (.cells #[.string nm, .slice Ap np cp] 42)).alloc (.cells #[.int .i64 s.brake, .int .i64 s.drag, .int .i64 s.drive] 44)).alloc (.cells #[.string ⟨#[]⟩, .slice none 0 0, .int .i64 0, .int .i64 0, .int .i64 0] 99)) := (((Below.refl _ _).alloc (Nat.le_refl _) _).alloc (by simp) _).alloc (by simp; omega) _
  have k1 : (((w.alloc (.cells #[.string nm, .slice Ap np cp] 42)).alloc (.cells #[.int .i64 s.brake, .int .i64 s.drag, .int .i64 s.drive] 44)).alloc (.cells #[.string ⟨#[]⟩, .slice none 0 0, .int .i64 0, .int .i64 0, .int .i64 0] 99)).heap[w.heap.size]? = some (.cells #[.string nm, .slice Ap np cp] 42 (0, 0)) := by
    rw [heapq_alloc, if_neg (by simp; omega), heapq_alloc, if_neg (by simp), heapq_alloc, if_pos rfl]
  have k2 : (((w.alloc (.cells #[.string nm, .slice Ap np cp] 42)).alloc (.cells #[.int .i64 s.brake, .int .i64 s.drag, .int .i64 s.drive] 44)).alloc (.cells #[.string ⟨#[]⟩, .slice none 0 0, .int .i64 0, .int .i64 0, .int .i64 0] 99)).heap[w.heap.size + 1]? = some (.cells #[.int .i64 s.brake, .int .i64 s.drag, .int .i64 s.drive] 44 (0, 0)) := by
    rw [heapq_alloc, if_neg (by simp), heapq_alloc, if_pos (by simp)]
  have k3 : (((w.alloc (.cells #[.string nm, .slice Ap np cp] 42)).alloc (.cells #[.int .i64 s.brake, .int .i64 s.drag, .int .i64 s.drive] 44)).alloc (.cells #[.string ⟨#[]⟩, .slice none 0 0, .int .i64 0, .int .i64 0, .int .i64 0] 99)).heap[w.heap.size + 1 + 1]? = some (.cells #[.string ⟨#[]⟩, .slice none 0 0, .int .i64 0, .int .i64 0, .int .i64 0] 99 (0, 0)) := by
    rw [heapq_alloc, if_pos (by simp)]
  have OP1 := OP _ hb0
  have hs := hb0.size
  have HB := Lib.hid hb0
  clear hb0 OP
  unfold trackV at OP1 ⊢
  unfold syV at CS ⊢
  go_enter Try.func39, Try.ntmps39
  go_upto_region 1 with (fail)
  generalize (((w.alloc (.cells #[.string nm, .slice Ap np cp] 42)).alloc (.cells #[.int .i64 s.brake, .int .i64 s.drag, .int .i64 s.drive] 44)).alloc (.cells #[.string ⟨#[]⟩, .slice none 0 0, .int .i64 0, .int .i64 0, .int .i64 0] 99)) = w0 at *
  obtain ⟨d0, d1⟩ := cells2 k1
  go_upto_region 2 with (go_at_call 47; refine OP1.mono ?_; rintro e w1 ⟨rfl, hb1⟩)
  have hbA := hb1.alloc hb1.size (.cells #[.string nm, .slice Ap np cp] 97)
  have k4 : (w1.alloc (.cells #[.string nm, .slice Ap np cp] 97)).heap[w1.heap.size]? = some (.cells #[.string nm, .slice Ap np cp] 97 (0, 0)) := by rw [heapq_alloc, if_pos rfl]
  replace k2 := blk hbA k2
  replace k3 := blk hbA k3
  replace HB := Lib.hid (HB.out.trans (hbA.mono hs))
  replace hs := Nat.le_trans hs hbA.size
  clear hb1 hbA OP1 d0 d1 k1
  generalize w1.alloc (.cells #[.string nm, .slice Ap np cp] 97) = w2 at *
  generalize w1.heap.size = g at *
  obtain ⟨d0, d1⟩ := cells2 k4
  obtain ⟨e0, e1, e2⟩ := cells3w k2
  have x0 := fun x : Xt w2 => x.cell d0
  have x1 := fun x : Xt w2 => x.cell d1
  have x2 := fun x : Xt w2 => x.cell e0
  have x3 := fun x : Xt w2 => x.cell e1
  have x4 := fun x : Xt w2 => x.cell e2
  refine wp_region_eager [8, 9] (fun w' => ∃ x : Xt w2, w' = x.1) (by kernel_rfl) ⟨⟨w2.drew, (Below.refl _ _).drew⟩, rfl⟩ ?_
  refine wpE_reads5 [0, 1, 2, 3, 4] 5 rfl (by kernel_rfl) ?_
  simp only [opsAt_nil, opsAt_cons, consOpt_some, List.getElem?_toArray, List.getElem?_cons_zero, List.getElem?_cons_succ]
  repeat (go_big_quiet_step (fail))
  refine wpQuiet_nil ?_
  have hbd : Below w2.heap.size w2 w2.drew := (Below.refl _ _).drew
  show wpE _ _ _ _ _ _ _ _ _ w2.drew
  generalize w2.drew = wd at *
  clear x0 x1 x2 x3 x4 d0 d1 e0 e1 e2 k2 k4
  refine wpE_one (i := 5) rfl (by kernel_rfl) rfl ?_
  unfold wpMid
  simp only [opsAt_nil, opsAt_cons, consOpt_some, List.getElem?_toArray, List.getElem?_cons_zero, List.getElem?_cons_succ]
  go_wp2_with (go_at_call 68; refine (CS _).mono ?_; rintro e w3 ⟨rfl, hb3⟩)
  have hb23 := hbd.trans (hb3.mono hbd.size)
  refine onlyNormal_mk ⟨⟨⟨_, hb23⟩, rfl⟩, ?_⟩
  refine wpE_one (i := 6) rfl (by kernel_rfl) rfl ?_
  unfold wpMid
  simp only [opsAt_nil, opsAt_cons, consOpt_some, List.getElem?_toArray, List.getElem?_cons_zero, List.getElem?_cons_succ]
  have F2 := bkFirst2 w3
  go_wp2
  have hb4 := hb23.alloc hb23.size (.cells #[.int .i64 0, .int .i64 0] 31)
  refine onlyNormal_mk ⟨⟨⟨_, hb4⟩, rfl⟩, ?_⟩
  refine wpE_one (i := 7) rfl (by kernel_rfl) rfl ?_
  unfold wpMid
  simp only [opsAt_nil, opsAt_cons, consOpt_some, List.getElem?_toArray, List.getElem?_cons_zero, List.getElem?_cons_succ]
  go_wp2_with (go_at_call 40; refine F2.mono ?_; rintro e w' ⟨rfl, rfl⟩)
  refine onlyNormal_mk ⟨⟨⟨_, hb4⟩, rfl⟩, ?_⟩
  replace k3 := blk hb4 k3
  replace HB := Lib.hid (HB.out.trans (hb4.mono hs))
  clear F2 hb4 hb23 hbd hb3 CS
  generalize w3.alloc (.cells #[.int .i64 0, .int .i64 0] 31) = w4 at *
  refine wpE_tail rfl (by kernel_rfl) ?_
  simp only [opsAt_nil, opsAt_cons, consOpt_some, List.getElem?_toArray, List.getElem?_cons_zero, List.getElem?_cons_succ]
  obtain ⟨⟨r0, r1, r2, r3, r4⟩, q0, q1, q2, q3, q4⟩ := resv5 k3
  clear k3
  go_wp2
  refine onlyNormal_mk ?_
  go_wp2
  refine bodyPost_ret (v := .tuple #[rideV nm Ap np cp s, .int .i64 0]) (by simp [results, Try.results39, go_sem, rideV, r0, r1, r2, r3, r4]) rfl ⟨rfl, ?_⟩
  exact ((((HB.out.setCell (p := ⟨w.heap.size + 1 + 1, 0, none⟩) (by show w.heap.size ≤ w.heap.size + 1 + 1; omega) _).setCell (p := ⟨w.heap.size + 1 + 1, 1, none⟩) (by show w.heap.size ≤ w.heap.size + 1 + 1; omega) _).setCell (p := ⟨w.heap.size + 1 + 1, 2, none⟩) (by show w.heap.size ≤ w.heap.size + 1 + 1; omega) _).setCell (p := ⟨w.heap.size + 1 + 1, 3, none⟩) (by show w.heap.size ≤ w.heap.size + 1 + 1; omega) _).setCell (p := ⟨w.heap.size + 1 + 1, 4, none⟩) (by show w.heap.size ≤ w.heap.size + 1 + 1; omega) _
def pcV (p : Pc) : Value := .agg #[.int .i64 p.len, .int .i64 p.grad, .int .i64 p.lim, .bool p.leave]
set_option maxRecDepth 100000 in
theorem lessLim_any (a b : Pc) (ha : PcR a) (hb : PcR b) (w : World) :
    Calls Try.prog 70 #[pcV a, pcV b] w fun e w' => e = .returned (.int .i64 (a.lim - b.lim)) ∧ Below w.heap.size w w' := by
  obtain ⟨al, ag, am, av⟩ := a
  obtain ⟨bl, bg, bm, bv⟩ := b
  obtain ⟨_, _, h1, h2⟩ := ha
  obtain ⟨_, _, h3, h4⟩ := hb
  simp only at h1 h2 h3 h4
  unfold pcV
  go_enter Try.func70, Try.ntmps70
  go_wp2
  go_ret
  exact ⟨rfl, ((Below.refl _ _).alloc (Nat.le_refl _) _).alloc (by simp) _⟩
/-- a piece with the least limit -/
def MinPost (w : World) (l : List Pc) (e : Ending) (w' : World) : Prop := ∃ x ∈ l, e = .returned (pcV x) ∧ (∀ y ∈ l, x.lim ≤ y.lim) ∧ Below w.heap.size w w'
theorem put4_blk {W : World} {z t : Nat} {a0 a1 a2 a3 b0 b1 b2 b3 : Value} (h : W.heap[z]? = some (.cells #[a0, a1, a2, a3] t (0, 0))) :
    ((((W.setCell ⟨z, 0, none⟩ b0).setCell ⟨z, 1, none⟩ b1).setCell ⟨z, 2, none⟩ b2).setCell ⟨z, 3, none⟩ b3).heap[z]? = some (.cells #[b0, b1, b2, b3] t (0, 0)) := by
  rw [heapq_set, if_pos rfl, heapq_set, if_pos rfl, heapq_set, if_pos rfl, heapq_set, if_pos rfl, h]
  rfl
theorem put4_oth {W : World} {z y : Nat} {b0 b1 b2 b3 : Value} (h : y ≠ z) :
    ((((W.setCell ⟨z, 0, none⟩ b0).setCell ⟨z, 1, none⟩ b1).setCell ⟨z, 2, none⟩ b2).setCell ⟨z, 3, none⟩ b3).heap[y]? = W.heap[y]? := by
  rw [heapq_set, if_neg h, heapq_set, if_neg h, heapq_set, if_neg h, heapq_set, if_neg h]
theorem put4_bel {W w : World} {x z : Nat} {b0 b1 b2 b3 : Value} (h : Below x w W) (hz : x ≤ z) :
    Below x w ((((W.setCell ⟨z, 0, none⟩ b0).setCell ⟨z, 1, none⟩ b1).setCell ⟨z, 2, none⟩ b2).setCell ⟨z, 3, none⟩ b3) :=
  (((h.setCell (p := ⟨z, 0, none⟩) hz _).setCell (p := ⟨z, 1, none⟩) hz _).setCell (p := ⟨z, 2, none⟩) hz _).setCell (p := ⟨z, 3, none⟩) hz _
theorem put4_size {W : World} {z : Nat} {b0 b1 b2 b3 : Value} : ((((W.setCell ⟨z, 0, none⟩ b0).setCell ⟨z, 1, none⟩ b1).setCell ⟨z, 2, none⟩ b2).setCell ⟨z, 3, none⟩ b3).heap.size = W.heap.size := by simp
structure MinRel (w : World) (l : List Pc) (n : Nat) (z : Nat) (u : Value) (wr : World) : Prop where
  k : ∃ k : Nat, 1 ≤ k ∧ k ≤ n ∧ u = .int .i64 k ∧ ∃ m ∈ l.take k, (∀ y ∈ l.take k, m.lim ≤ y.lim) ∧ wr.heap[z]? = some (.cells #[.int .i64 m.len, .int .i64 m.grad, .int .i64 m.lim, .bool m.leave] 110 (0, 0))
  y : wr.heap[w.heap.size]? = some (.cells #[.int .i64 0, .int .i64 0, .int .i64 0, .bool false] 110 (0, 0))
  b : Below w.heap.size w wr
set_option maxRecDepth 100000 in
set_option maxHeartbeats 4000000 in
theorem MinFunc_any (w : World) (B : Nat) (A : Option Addr) (n c : Nat) (l : List Pc) (hl : l.length = n) (h1 : 1 ≤ n) (hn : n ≤ 12) (hr : Rd w B A (pcCells l)) (hB : B ≤ w.heap.size) (hp : ∀ p ∈ l, PcR p) :
    Calls Try.prog 69 #[.slice A n c, .func (.func 70) #[] #[]] w (MinPost w l) := by
  have HL := Lib.hid hl
  have HP := Lib.hid hp
  obtain ⟨x0, hx0⟩ : ∃ x, l[0]? = some x := ⟨_, List.getElem?_eq_getElem (by omega)⟩
  have k0 : (w.alloc (.cells #[.int .i64 0, .int .i64 0, .int .i64 0, .bool false] 110)).heap[w.heap.size]? = some (.cells #[.int .i64 0, .int .i64 0, .int .i64 0, .bool false] 110 (0, 0)) := by rw [heapq_alloc, if_pos rfl]
  have hb0 : Below w.heap.size w (w.alloc (.cells #[.int .i64 0, .int .i64 0, .int .i64 0, .bool false] 110)) := (Below.refl _ _).alloc (Nat.le_refl _) _
  have hr0 := hr.below (hb0.mono hB)
  have hs := hb0.size
  have HB := Lib.hid hb0
  have g1 : ¬ ((n : Int) < 1) := by omega
  obtain ⟨b, off, hA, _, c0, c1, c2, c3⟩ := hr0.pc hx0
  subst hA
  have HX := Lib.hid hx0
  clear hb0 hp hl hx0
  go_enter Try.func69, Try.ntmps69
  go_upto_region 1 with (fail)
  have hlz : w.heap.size < (w.alloc (.cells #[.int .i64 0, .int .i64 0, .int .i64 0, .bool false] 110)).heap.size := (Array.getElem?_eq_some_iff.1 k0).1
  generalize w.alloc (.cells #[.int .i64 0, .int .i64 0, .int .i64 0, .bool false] 110) = w0 at *
  have hb1 : Below w0.heap.size w0 (w0.alloc (.cells #[.int .i64 x0.len, .int .i64 x0.grad, .int .i64 x0.lim, .bool x0.leave] 110)) := (Below.refl _ _).alloc (Nat.le_refl _) _
  have kz : (w0.alloc (.cells #[.int .i64 x0.len, .int .i64 x0.grad, .int .i64 x0.lim, .bool x0.leave] 110)).heap[w0.heap.size]? = some (.cells #[.int .i64 x0.len, .int .i64 x0.grad, .int .i64 x0.lim, .bool x0.leave] 110 (0, 0)) := by rw [heapq_alloc, if_pos rfl]
  simp only [Nat.zero_mul, Nat.add_zero] at c0 c1 c2 c3
  go_upto_region 4 with (fail)
  replace k0 := blk hb1 k0
  have HB1 := Lib.hid (HB.out.trans (hb1.mono hs))
  clear c0 c1 c2 c3 hb1
  have hlz1 : w0.heap.size < (w0.alloc (.cells #[.int .i64 x0.len, .int .i64 x0.grad, .int .i64 x0.lim, .bool x0.leave] 110)).heap.size := (Array.getElem?_eq_some_iff.1 kz).1
  generalize w0.alloc (.cells #[.int .i64 x0.len, .int .i64 x0.grad, .int .i64 x0.lim, .bool x0.leave] 110) = w1 at *
  generalize w0.heap.size = z at *
  go_wp2
  go_loopw [6] (fun u wr => MinRel w l n z u wr) (fun u _ => n - (intOf u).toNat)
  case atStart =>
    refine ⟨⟨1, Nat.le_refl _, h1, rfl, x0, ?_, ?_, kz⟩, k0, HB1.out⟩
    · rw [List.take_add_one, HX.out]; simp
    · rw [List.take_add_one, HX.out]; simp
  case round =>
    obtain ⟨⟨k, hk1, hk, rfl, m, hm, hmin, hz⟩, hy, hb⟩ := hrel
    have HM := Lib.hid hm
    have HMIN := Lib.hid hmin
    have HBR := Lib.hid hb
    have HY := Lib.hid hy
    have hsr := hb.size
    have hrR := hr.below (hb.mono hB)
    clear hm hmin hb hy
    obtain ⟨⟨d0, d1, d2, d3⟩, q0, q1, q2, q3⟩ := resv4 hz
    by_cases hlt : k < n
    · obtain ⟨x, hx⟩ : ∃ x, l[k]? = some x := ⟨_, List.getElem?_eq_getElem (by rw [HL.out]; exact hlt)⟩
      obtain ⟨b', off', hA, _, c0, c1, c2, c3⟩ := hrR.pc hx
      cases hA
      have hxR := HP.out x (List.mem_of_getElem? hx)
      have hmR := HP.out m (List.mem_of_mem_take HM.out)
      have LT := fun W => lessLim_any x m hxR hmR W
      have HT := Lib.hid (take_snoc hx)
      have hxl := hxR.2.2
      have hml := hmR.2.2
      clear hx hrR hxR hmR
      unfold pcV at LT
      go_upto_region 7 with (fail)
      have x0 := fun x : Xt wr => x.cell c0
      have x1 := fun x : Xt wr => x.cell c1
      have x2 := fun x : Xt wr => x.cell c2
      have x3 := fun x : Xt wr => x.cell c3
      have y0 := fun x : Xt wr => x.cell d0
      have y1 := fun x : Xt wr => x.cell d1
      have y2 := fun x : Xt wr => x.cell d2
      have y3 := fun x : Xt wr => x.cell d3
      refine wp_region_eager [7] (fun w' => ∃ x : Xt wr, w' = x.1) (by kernel_rfl) ⟨⟨wr.drew, (Below.refl _ _).drew⟩, rfl⟩ ?_
      refine wpE_reads [0, 1, 2, 3, 4, 5] 2 rfl (by kernel_rfl) ?_
      simp only [opsAt_nil, opsAt_cons, consOpt_some, List.getElem?_toArray, List.getElem?_cons_zero, List.getElem?_cons_succ]
      repeat (go_big_quiet_step (fail))
      refine wpQuiet_nil ?_
      have hbd : Below wr.heap.size wr wr.drew := (Below.refl _ _).drew
      show wpE _ _ _ _ _ _ _ _ _ wr.drew
      generalize wr.drew = wd at *
      clear x0 x1 x2 x3 y0 y1 y2 y3
      refine wpE_one (i := 6) rfl (by kernel_rfl) rfl ?_
      unfold wpMid
      simp only [opsAt_nil, opsAt_cons, consOpt_some, List.getElem?_toArray, List.getElem?_cons_zero, List.getElem?_cons_succ]
      go_wp2_with (go_at_call 70; refine (LT _).mono ?_; rintro e w3 ⟨rfl, hb3⟩)
      have hb23 := hbd.trans (hb3.mono hbd.size)
      refine onlyNormal_mk ⟨⟨⟨_, hb23⟩, rfl⟩, ?_⟩
      refine wpE_tail rfl (by kernel_rfl) ?_
      simp only [opsAt_nil, opsAt_cons, consOpt_some, List.getElem?_toArray, List.getElem?_cons_zero, List.getElem?_cons_succ]
      have HB3 := Lib.hid (HBR.out.trans (hb23.mono hsr))
      replace HY := Lib.hid (blk hb23 HY.out)
      replace hz := blk hb23 hz
      replace c0 := kept hb23 c0
      replace c1 := kept hb23 c1
      replace c2 := kept hb23 c2
      replace c3 := kept hb23 c3
      clear hb23 hb3 hbd LT d0 d1 d2 d3 q0 q1 q2 q3
      obtain ⟨⟨d0, d1, d2, d3⟩, q0, q1, q2, q3⟩ := resv4 hz
      by_cases hlm : x.lim < m.lim
      · have HZ := Lib.hid hz
        clear hz
        go_wp2
        refine onlyNormal_mk ?_
        go_wp2
        go_roundw
        case rel =>
          refine ⟨⟨k + 1, by omega, hlt, by go_num, x, ?_, ?_, put4_blk HZ.out⟩, ?_, put4_bel HB3.out hs⟩
          · rw [HT.out]; simp
          · intro y hy
            rw [HT.out, List.mem_append, List.mem_singleton] at hy
            rcases hy with hy | rfl
            · have := HMIN.out y hy
              omega
            · omega
          · rw [put4_oth (by omega)]
            exact HY.out
        case measure => simp [intOf]; omega
      · have HZ := Lib.hid hz
        clear hz
        go_wp2
        refine onlyNormal_mk ?_
        go_wp2
        go_roundw
        case rel =>
          refine ⟨⟨k + 1, by omega, hlt, by go_num, m, ?_, ?_, HZ.out⟩, HY.out, HB3.out⟩
          · rw [HT.out]; simp [HM.out]
          · intro y hy
            rw [HT.out, List.mem_append, List.mem_singleton] at hy
            rcases hy with hy | rfl
            · exact HMIN.out y hy
            · omega
        case measure => simp [intOf]; omega
    · obtain rfl : k = n := by omega
      obtain ⟨⟨e0, e1, e2, e3⟩, f0, f1, f2, f3⟩ := resv4 HY.out
      clear hrR hz
      go_wp2
      refine bodyPost_ret (v := pcV m) (by simp [results, Try.results69, go_sem, pcV, e0, e1, e2, e3]) rfl ⟨m, List.mem_of_mem_take HM.out, rfl, fun y hy => HMIN.out y (by rw [List.take_of_length_le (by rw [HL.out]; exact Nat.le_refl _)]; exact hy), put4_bel HBR.out (Nat.le_refl _)⟩
end Go.Proofs.Ytnnnpijepdjanaa
