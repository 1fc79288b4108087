/- Words of kinds, texts in lists, the number that a text tells: the reference's walks. -/
import Derived.Test.YtmcjnfghlpnghaaGreatDoorT2
import Derived.Test.YtmcjnfghlpnghaaGreatDoorH4
namespace Go.Proofs.YtmcjnfghlpnghaaGreatDoor
open Go.RowKit

theorem run_wordsC (k : Nat) (W : World) (h : (fun W : World => Sem.run Tryz.prog (Instr.index 174 (.agg #[.string ⟨#[103, 111]⟩, .string ⟨#[115, 116, 111, 112]⟩, .string ⟨#[103, 97, 116, 101]⟩, .string ⟨#[98, 97, 114]⟩, .string ⟨#[111, 112, 101, 110]⟩, .string ⟨#[115, 104, 117, 116]⟩, .string ⟨#[97, 108, 97, 114, 109]⟩, .string ⟨#[99, 97, 108, 109]⟩]) (.int .i64 (k : Int))) W) = fun W => .ok (.string (ba (wordL k))) W) : Sem.run Tryz.prog (Instr.index 174 (.agg #[.string ⟨#[103, 111]⟩, .string ⟨#[115, 116, 111, 112]⟩, .string ⟨#[103, 97, 116, 101]⟩, .string ⟨#[98, 97, 114]⟩, .string ⟨#[111, 112, 101, 110]⟩, .string ⟨#[115, 104, 117, 116]⟩, .string ⟨#[97, 108, 97, 114, 109]⟩, .string ⟨#[99, 97, 108, 109]⟩]) (.int .i64 (k : Int))) W = .ok (.string (ba (wordL k))) W := congrFun h W
theorem run_words (k : Nat) (h : k < 8) (W : World) : Sem.run Tryz.prog (Instr.index 174 (.agg #[.string ⟨#[103, 111]⟩, .string ⟨#[115, 116, 111, 112]⟩, .string ⟨#[103, 97, 116, 101]⟩, .string ⟨#[98, 97, 114]⟩, .string ⟨#[111, 112, 101, 110]⟩, .string ⟨#[115, 104, 117, 116]⟩, .string ⟨#[97, 108, 97, 114, 109]⟩, .string ⟨#[99, 97, 108, 109]⟩]) (.int .i64 (k : Int))) W = .ok (.string (ba (wordL k))) W := by
  have hk : k = 0 ∨ k = 1 ∨ k = 2 ∨ k = 3 ∨ k = 4 ∨ k = 5 ∨ k = 6 ∨ k = 7 := by omega
  rcases hk with rfl | rfl | rfl | rfl | rfl | rfl | rfl | rfl
  all_goals exact run_wordsC _ _ (by kernel_rfl)
theorem word_any (k : Nat) (h : k < 8) (w : World) : Calls Tryz.prog 51 #[.int .i64 (k : Int)] w fun e w' => e = .returned (.string (ba (wordL k))) ∧ w = w' := by
  have d0 := run_words k h
  generalize ba (wordL k) = s at *
  go_enter Tryz.func51, Tryz.ntmps51
  go_wp2
  go_ret
  exact ⟨rfl, rfl⟩
/-- what a kind uses, in letters -/
def usesS (k : Nat) : ByteArray := if k = 1 then ⟨#[112]⟩ else if 2 ≤ k ∧ k ≤ 5 then ⟨#[100]⟩ else ⟨#[]⟩
theorem uses_any (k : Nat) (w : World) : Calls Tryz.prog 52 #[.int .i64 (k : Int)] w fun e w' => e = .returned (.string (usesS k)) ∧ w = w' := by
  unfold usesS
  by_cases h1 : k = 1
  · subst h1
    rw [if_pos rfl]
    exact uses_p w
  · rw [if_neg h1]
    by_cases h2 : 2 ≤ k ∧ k ≤ 5
    · rw [if_pos h2]
      exact uses_d k w (by omega)
    · rw [if_neg h2]
      exact uses_no k w (by omega) (by omega)
theorem usesS_size (k : Nat) : (usesS k).size = if useB k then 1 else 0 := by
  unfold usesS useB
  by_cases h1 : k = 1
  · subst h1; rfl
  · rw [if_neg h1]
    by_cases h2 : 2 ≤ k ∧ k ≤ 5
    · rw [if_pos h2, if_pos (by simp; omega)]; rfl
    · rw [if_neg h2, if_neg (by simp; omega)]; rfl

def strCells (l : List ByteArray) : List Value := l.map .string
theorem strCells_len (l : List ByteArray) : (strCells l).length = l.length := by simp [strCells]
theorem strCells_one (l : List ByteArray) : ∀ u ∈ strCells l, u.oneCell' = true := by
  intro u hu
  simp only [strCells, List.mem_map] at hu
  obtain ⟨n, _, rfl⟩ := hu
  rfl
theorem drop_atT (l : List ByteArray) (k : Nat) (h : k < l.length) : l.drop k = l[k]?.getD ⟨#[]⟩ :: l.drop (k + 1) := by
  rw [List.drop_eq_getElem_cons h, List.getElem?_eq_getElem h]
  rfl
/-- is a text among those -/
def hasT (l : List ByteArray) (s : ByteArray) : Bool := l.any fun a => a.toList == s.toList
theorem hasT_cons (a s : ByteArray) (l : List ByteArray) : hasT (a :: l) s = ((a.toList == s.toList) || hasT l s) := by simp [hasT]
set_option maxRecDepth 100000 in
theorem HasText_any (A : Option Addr) (n c B : Nat) (l : List ByteArray) (s : ByteArray) (w : World) (hn : n ≤ 1000000000) (hl : l.length = n) (h : Rd w B A (strCells l)) :
    Calls Tryz.prog 54 #[.slice A n c, .string s] w fun e w' => e = .returned (.bool (hasT l s)) ∧ w = w' := by
  have HL := Lib.hid hl; clear hl
  go_enter Tryz.func54, Tryz.ntmps54
  go_wp2
  go_loop [5] (fun i => ∃ k : Nat, k ≤ n ∧ i = .int .i64 k ∧ hasT (l.drop k) s = hasT l s) (fun i => n - (intOf i).toNat)
  case atStart => exact ⟨0, Nat.zero_le _, rfl, rfl⟩
  case round =>
    obtain ⟨k, hk, rfl, he⟩ := hrel
    have HE := Lib.hid he; clear he
    by_cases hlt : k < n
    · have hkl : k < l.length := by rw [HL.out]; exact hlt
      obtain ⟨b, off, rfl, _, hc⟩ := h.at_ (k := k) (u := .string (l[k]?.getD ⟨#[]⟩)) (by simp [strCells, hkl])
      have HS := Lib.hid (drop_atT l k hkl)
      clear hkl
      generalize l[k]?.getD ⟨#[]⟩ = x at *
      cases hx : (x.toList == s.toList) with
      | true =>
        have HX := Lib.hid hx
        go_wp2
        go_ret
        exact ⟨by rw [← HE.out, HS.out, hasT_cons, HX.out]; rfl, rfl⟩
      | false =>
        have HX := Lib.hid hx
        go_wp2
        go_round
        case rel => exact ⟨k + 1, by omega, by go_num, by rw [← HE.out, HS.out, hasT_cons, HX.out, Bool.false_or]⟩
        case measure => simp [intOf]; omega
    · go_wp2
      go_ret
      have : l.drop k = [] := by rw [List.drop_eq_nil_iff]; rw [HL.out]; omega
      exact ⟨by rw [← HE.out, this]; rfl, rfl⟩

/-- what Number returns -/
def numP (l : List UInt8) (most : Nat) : Value := match numL l most with
  | some n => .tuple #[.int .i64 n, .bool true]
  | none => .tuple #[.int .i64 0, .bool false]
theorem numP_no {l : List UInt8} {most : Nat} (h : numB l most = false) : numP l most = .tuple #[.int .i64 0, .bool false] := by
  unfold numP numL
  rw [h]
  rfl
theorem numP_yes {l : List UInt8} {most : Nat} (h : numB l most = true) : numP l most = .tuple #[.int .i64 (if negL l then -(digN 0 (magL l) : Int) else (digN 0 (magL l) : Int)), .bool true] := by
  unfold numP numL
  rw [h]
  rfl
theorem mag_drop (l : List UInt8) (b : Bool) (h : negL l = b) : magL l = l.drop (if b then 1 else 0) := by
  unfold magL
  rw [h]
  cases b
  · rfl
  · cases l <;> rfl
theorem dropA {l : List UInt8} {k : Nat} (h : k < l.length) : (l.drop k).all digC = (digC (l.getD k 0) && (l.drop (k + 1)).all digC) := by
  rw [dropB h, List.all_cons]
theorem dropN {l : List UInt8} {k v : Nat} (h : k < l.length) : digN v (l.drop k) = digN (10 * v + ((l.getD k 0).toNat - 48)) (l.drop (k + 1)) := by
  rw [dropB h, digN_cons]
/-- the byte at a place -/
def byt (s : ByteArray) (k : Nat) : Nat := (s.data.toList.getD k 0).toNat
theorem run_byt (s : ByteArray) (k : Nat) (h : k < s.size) (W : World) : Sem.run Tryz.prog (Instr.index 9 (.string s) (.int .i64 (k : Int))) W = .ok (.int .u8 ((byt s k : Nat) : Int)) W := run_index9 s k h W
theorem byt_le (s : ByteArray) (k : Nat) : byt s k ≤ 255 := by have := UInt8.toNat_lt (s.data.toList.getD k 0); unfold byt; omega
theorem neg_byt (s : ByteArray) (h : 0 < s.size) : negL s.data.toList = decide (byt s 0 = 45) := by
  have hl : 0 < s.data.toList.length := by rw [← Lib.size_eq]; exact h
  unfold negL byt
  cases hd : s.data.toList with
  | nil => rw [hd] at hl; simp at hl
  | cons c r =>
    simp only [List.head?_cons, List.getD_cons_zero]
    by_cases hc : c = 45
    · subst hc; rfl
    · rw [decide_eq_false (ne45 hc)]
      simp [hc]
theorem head_byt (s : ByteArray) (a : Nat) (h : a < s.size) : (s.data.toList.drop a).head? = some 48 ↔ byt s a = 48 := by
  have hl : a < s.data.toList.length := by rw [← Lib.size_eq]; exact h
  rw [dropB hl, List.head?_cons, Option.some.injEq]
  unfold byt
  constructor
  · intro e; rw [e]; rfl
  · intro e; exact UInt8.toNat_inj.1 e
theorem digC_byt (s : ByteArray) (k : Nat) : digC (s.data.toList.getD k 0) = (decide (48 ≤ byt s k) && decide (byt s k ≤ 57)) := rfl
theorem getD0 (s : ByteArray) : ∀ W : World, 0 < s.size → Sem.run Tryz.prog (Instr.index 9 (.string s) (.int .i64 0)) W = .ok (.int .u8 ((byt s 0 : Nat) : Int)) W := fun W h => run_byt s 0 h W
theorem getD1 (s : ByteArray) : ∀ W : World, 1 < s.size → Sem.run Tryz.prog (Instr.index 9 (.string s) (.int .i64 1)) W = .ok (.int .u8 ((byt s 1 : Nat) : Int)) W := fun W h => run_byt s 1 h W

set_option maxRecDepth 100000 in
set_option maxHeartbeats 8000000 in
theorem Number_0 (s : ByteArray) (most : Nat) (hm : most ≤ 10) (hs : s.size ≤ 1000000) (h0 : 0 < s.size) (hneg : negL s.data.toList = false) (w : World) :
    Calls Tryz.prog 53 #[.string s, .int .i64 (most : Int)] w fun e w' => e = .returned (numP s.data.toList most) ∧ w = w' := by
  have hmag := mag_drop _ _ hneg
  have hn0 := neg_byt s h0
  rw [hneg] at hn0
  have g0 : (0 : Int) < (s.size : Int) := by omega
  have d0 := getD0 s
  replace d0 := fun W => d0 W h0
  have hb0 : byt s 0 ≠ 45 := by simpa using hn0.symm
  have e0 : (((byt s 0 : Nat) : Int) == 45) = false := beq_eq_false_iff_ne.2 (by omega)
  rw [if_neg (by simp)] at hmag
  have hlen : s.data.toList.length = s.size := (Lib.size_eq s).symm
  have hrl : (magL s.data.toList).length = s.size - 0 := by rw [hmag, List.length_drop, hlen]
  by_cases hz : s.size = 0
  · have HV : Hid (numP s.data.toList most = .tuple #[.int .i64 0, .bool false]) := numP_no (by
      unfold numB
      rw [decide_eq_false (by rw [ne_eq, Decidable.not_not]; exact List.length_eq_zero_iff.1 (by omega))]
      rfl)
    have e1 : ((s.size : Int) == 0) = true := beq_iff_eq.2 (by omega)
    clear hz hmag hrl hlen hn0 hneg hb0
    generalize (byt s 0 : Nat) = c0 at *
    generalize numP s.data.toList most = V at *
    go_enter Tryz.func53, Tryz.ntmps53
    go_wp2
    go_ret2
    exact ⟨by rw [HV.out]; rfl, rfl⟩
  have e1 : ((s.size : Int) == 0) = false := beq_eq_false_iff_ne.2 (by omega)
  by_cases hl : most < s.size - 0
  · have HV : Hid (numP s.data.toList most = .tuple #[.int .i64 0, .bool false]) := numP_no (by
      unfold numB
      rw [decide_eq_false (show ¬ (magL s.data.toList).length ≤ most by omega), Bool.and_false]
      rfl)
    have q2 : (most : Int) < (s.size : Int) - 0 := by omega
    clear hz hl hmag hrl hlen hn0 hneg hb0
    generalize (byt s 0 : Nat) = c0 at *
    generalize numP s.data.toList most = V at *
    go_enter Tryz.func53, Tryz.ntmps53
    go_wp2
    go_ret2
    exact ⟨by rw [HV.out]; rfl, rfl⟩
  have q2 : ¬ (most : Int) < (s.size : Int) - 0 := by omega
  have hat : 0 < s.size := by omega
  have d1 := getD0 s
  replace d1 := fun W => d1 W hat
  have hhd := head_byt s 0 hat
  rw [← hmag] at hhd
  have gt1 : decide (1 < s.data.toList.length) = decide ((1 : Int) < (s.size : Int)) := by rw [hlen]; apply decide_eq_decide.2; omega
  by_cases h48 : byt s 0 = 48 ∧ 1 < s.size
  · have HV : Hid (numP s.data.toList most = .tuple #[.int .i64 0, .bool false]) := numP_no (by
      unfold numB
      rw [decide_eq_true (hhd.2 h48.1), decide_eq_true (show 1 < s.data.toList.length by omega)]
      simp)
    have q3 : (((byt s 0 : Nat) : Int) == 48) = true := beq_iff_eq.2 (by omega)
    have q4 : (1 : Int) < (s.size : Int) := by omega
    clear hz hl hmag hrl hlen hn0 hneg hb0 h48 hhd gt1 hat
    generalize numP s.data.toList most = V at *
    generalize (byt s 0 : Nat) = c0 at *
    go_enter Tryz.func53, Tryz.ntmps53
    go_wp2
    go_ret2
    exact ⟨by rw [HV.out]; rfl, rfl⟩
  obtain ⟨q, hq⟩ : ∃ q, (((byt s 0 : Nat) : Int) == 48) = q := ⟨_, rfl⟩
  have hq1 : q = true → ¬ (1 : Int) < (s.size : Int) := by
    intro hh
    subst hh
    have := beq_iff_eq.1 hq
    omega
  obtain ⟨AA, hAA⟩ : ∃ b, (s.data.toList.drop 0).all digC = b := ⟨_, rfl⟩
  obtain ⟨TT, hTT⟩ : ∃ n, digN 0 (s.data.toList.drop 0) = n := ⟨_, rfl⟩
  have hnB : numB s.data.toList most = AA := by
    unfold numB
    rw [decide_eq_true (show magL s.data.toList ≠ [] from fun e => by rw [e] at hrl; simp at hrl; omega), decide_eq_true (show (magL s.data.toList).length ≤ most by omega), hmag, hAA]
    have : (!(decide ((s.data.toList.drop 0).head? = some 48) && decide (1 < s.data.toList.length))) = true := by
      rw [← hmag, Bool.not_eq_true', Bool.and_eq_false_iff, decide_eq_false_iff_not, decide_eq_false_iff_not, hhd, hlen]
      by_cases hx : byt s 0 = 48
      · right; intro hy; exact h48 ⟨hx, hy⟩
      · left; exact hx
    rw [this]
    rfl
  have HNO : Hid (AA = false → numP s.data.toList most = .tuple #[.int .i64 0, .bool false]) := fun h => numP_no (hnB.trans h)
  have HYES : Hid (AA = true → numP s.data.toList most = .tuple #[.int .i64 ((TT : Int)), .bool true]) := fun h => by
    rw [numP_yes (hnB.trans h), hneg, hmag, hTT]
    rfl
  have HMID : Hid (∀ k v : Nat, 0 ≤ k → k < s.size → v < 10 ^ (k - 0) → (s.data.toList.drop k).all digC = AA → digN v (s.data.toList.drop k) = TT →
      (48 ≤ byt s k ∧ byt s k ≤ 57 ∧ v ≤ 999999999 ∧ 10 * v + (byt s k - 48) < 10 ^ (k + 1 - 0) ∧ (s.data.toList.drop (k + 1)).all digC = AA ∧ digN (10 * v + (byt s k - 48)) (s.data.toList.drop (k + 1)) = TT) ∨ (¬ (48 ≤ byt s k ∧ byt s k ≤ 57) ∧ AA = false)) := by
    intro k v hk1 hk hv ha hd
    have hkl : k < s.data.toList.length := by omega
    rw [dropA hkl, digC_byt] at ha
    rw [dropN hkl] at hd
    by_cases hc : 48 ≤ byt s k ∧ byt s k ≤ 57
    · left
      rw [decide_eq_true hc.1, decide_eq_true hc.2] at ha
      refine ⟨hc.1, hc.2, ?_, ?_, ha, hd⟩
      · have : 10 ^ (k - 0) ≤ 10 ^ 9 := Nat.pow_le_pow_right (by omega) (by omega)
        omega
      · rw [show k + 1 - 0 = (k - 0) + 1 by omega, Nat.pow_succ]
        have := hc.2
        omega
    · right
      refine ⟨hc, ?_⟩
      rw [← ha]
      have : (decide (48 ≤ byt s k) && decide (byt s k ≤ 57)) = false := by
        rw [Bool.eq_false_iff]
        simp only [ne_eq, Bool.and_eq_true, decide_eq_true_eq]
        exact hc
      rw [this]
      rfl
  have HLAST : Hid (∀ k v : Nat, ¬ k < s.size → (s.data.toList.drop k).all digC = AA → digN v (s.data.toList.drop k) = TT → AA = true ∧ v = TT) := by
    intro k v hk ha hd
    rw [show s.data.toList.drop k = [] from by rw [List.drop_eq_nil_iff]; omega] at ha hd
    exact ⟨by rw [← ha]; rfl, hd⟩
  have HA := Lib.hid hAA
  have HT := Lib.hid hTT
  clear hz hl hmag hrl hlen hn0 hneg hb0 h48 hhd gt1 hnB hAA hTT
  generalize numP s.data.toList most = V at *
  have dk := fun (k : Nat) (hk : k < s.size) => run_byt s k hk
  have hbl := byt_le s
  have DK := Lib.hid dk
  have HBL := Lib.hid hbl
  clear dk hbl
  have HMM := Lib.hid hm
  go_enter Tryz.func53, Tryz.ntmps53
  cases q with
  | true =>
    have e4 := hq1 rfl
    clear hq1
    generalize (byt s 0 : Nat) = c0 at d0 e0 d1 hq
    go_wp2
    go_loop [7, 8] (fun u i => ∃ k v : Nat, 0 ≤ k ∧ k ≤ s.size ∧ i = .int .i64 k ∧ u = .int .i64 v ∧ v < 10 ^ (k - 0) ∧ (s.data.toList.drop k).all digC = AA ∧ digN v (s.data.toList.drop k) = TT) (fun _ i => s.size - (intOf i).toNat)
    case atStart => exact ⟨0, 0, Nat.le_refl _, by omega, rfl, rfl, by decide, HA.out, HT.out⟩
    case round =>
      clear d0 d1
      obtain ⟨k, v, hk1, hk, rfl, rfl, hv, ha, hd⟩ := hrel
      by_cases hlt : k < s.size
      · have hh := HMID.out k v hk1 hlt hv ha hd
        have dk := DK.out k hlt
        have hb := HBL.out k
        clear hv ha hd
        generalize byt s k = c at *
        have hlti : (k : Int) < (s.size : Int) := by omega
        rcases hh with ⟨hc1, hc2, hv5, hv6, hv7, hv8⟩ | ⟨hc, hf⟩
        · have HV6 := Lib.hid hv6
          have HV7 := Lib.hid hv7
          have HV8 := Lib.hid hv8
          clear hv6 hv7 hv8
          have q1 : ¬ (c : Int) < 48 := by omega
          have q2 : ¬ (57 : Int) < (c : Int) := by omega
          go_wp2
          go_round
          case rel => exact ⟨k + 1, 10 * v + (c - 48), by omega, by omega, by go_num, by go_num, HV6.out, HV7.out, HV8.out⟩
          case measure => simp [intOf]; omega
        · have HF := Lib.hid hf
          clear hf
          by_cases hc1 : c < 48
          · have q1 : (c : Int) < 48 := by omega
            go_wp2
            go_ret2
            exact ⟨by rw [HNO.out HF.out]; rfl, rfl⟩
          · have q1 : ¬ (c : Int) < 48 := by omega
            have q2 : (57 : Int) < (c : Int) := by omega
            go_wp2
            go_ret2
            exact ⟨by rw [HNO.out HF.out]; rfl, rfl⟩
      · obtain ⟨ha1, hv1⟩ := HLAST.out k v hlt ha hd
        have HA1 := Lib.hid ha1
        have HV1 := Lib.hid hv1
        have hvb : v ≤ 9999999999 := by
          have hmm := HMM.out
          have : 10 ^ (k - 0) ≤ 10 ^ 10 := Nat.pow_le_pow_right (by omega) (by omega)
          omega
        clear hv ha hd ha1 hv1
        have hlti : ¬ (k : Int) < (s.size : Int) := by omega
        go_wp2
        go_ret2
        exact ⟨by rw [HYES.out HA1.out, ← HV1.out]; rfl, rfl⟩
  | false =>
    clear hq1
    generalize (byt s 0 : Nat) = c0 at d0 e0 d1 hq
    go_wp2
    go_loop [7, 8] (fun u i => ∃ k v : Nat, 0 ≤ k ∧ k ≤ s.size ∧ i = .int .i64 k ∧ u = .int .i64 v ∧ v < 10 ^ (k - 0) ∧ (s.data.toList.drop k).all digC = AA ∧ digN v (s.data.toList.drop k) = TT) (fun _ i => s.size - (intOf i).toNat)
    case atStart => exact ⟨0, 0, Nat.le_refl _, by omega, rfl, rfl, by decide, HA.out, HT.out⟩
    case round =>
      clear d0 d1
      obtain ⟨k, v, hk1, hk, rfl, rfl, hv, ha, hd⟩ := hrel
      by_cases hlt : k < s.size
      · have hh := HMID.out k v hk1 hlt hv ha hd
        have dk := DK.out k hlt
        have hb := HBL.out k
        clear hv ha hd
        generalize byt s k = c at *
        have hlti : (k : Int) < (s.size : Int) := by omega
        rcases hh with ⟨hc1, hc2, hv5, hv6, hv7, hv8⟩ | ⟨hc, hf⟩
        · have HV6 := Lib.hid hv6
          have HV7 := Lib.hid hv7
          have HV8 := Lib.hid hv8
          clear hv6 hv7 hv8
          have q1 : ¬ (c : Int) < 48 := by omega
          have q2 : ¬ (57 : Int) < (c : Int) := by omega
          go_wp2
          go_round
          case rel => exact ⟨k + 1, 10 * v + (c - 48), by omega, by omega, by go_num, by go_num, HV6.out, HV7.out, HV8.out⟩
          case measure => simp [intOf]; omega
        · have HF := Lib.hid hf
          clear hf
          by_cases hc1 : c < 48
          · have q1 : (c : Int) < 48 := by omega
            go_wp2
            go_ret2
            exact ⟨by rw [HNO.out HF.out]; rfl, rfl⟩
          · have q1 : ¬ (c : Int) < 48 := by omega
            have q2 : (57 : Int) < (c : Int) := by omega
            go_wp2
            go_ret2
            exact ⟨by rw [HNO.out HF.out]; rfl, rfl⟩
      · obtain ⟨ha1, hv1⟩ := HLAST.out k v hlt ha hd
        have HA1 := Lib.hid ha1
        have HV1 := Lib.hid hv1
        have hvb : v ≤ 9999999999 := by
          have hmm := HMM.out
          have : 10 ^ (k - 0) ≤ 10 ^ 10 := Nat.pow_le_pow_right (by omega) (by omega)
          omega
        clear hv ha hd ha1 hv1
        have hlti : ¬ (k : Int) < (s.size : Int) := by omega
        go_wp2
        go_ret2
        exact ⟨by rw [HYES.out HA1.out, ← HV1.out]; rfl, rfl⟩
set_option maxRecDepth 100000 in
set_option maxHeartbeats 8000000 in
theorem Number_1 (s : ByteArray) (most : Nat) (hm : most ≤ 10) (hs : s.size ≤ 1000000) (h0 : 0 < s.size) (hneg : negL s.data.toList = true) (w : World) :
    Calls Tryz.prog 53 #[.string s, .int .i64 (most : Int)] w fun e w' => e = .returned (numP s.data.toList most) ∧ w = w' := by
  have hmag := mag_drop _ _ hneg
  have hn0 := neg_byt s h0
  rw [hneg] at hn0
  have g0 : (0 : Int) < (s.size : Int) := by omega
  have d0 := getD0 s
  replace d0 := fun W => d0 W h0
  have hb0 : byt s 0 = 45 := by simpa using hn0.symm
  have e0 : (((byt s 0 : Nat) : Int) == 45) = true := beq_iff_eq.2 (by omega)
  rw [if_pos rfl] at hmag
  have hlen : s.data.toList.length = s.size := (Lib.size_eq s).symm
  have hrl : (magL s.data.toList).length = s.size - 1 := by rw [hmag, List.length_drop, hlen]
  by_cases hz : s.size = 1
  · have HV : Hid (numP s.data.toList most = .tuple #[.int .i64 0, .bool false]) := numP_no (by
      unfold numB
      rw [decide_eq_false (by rw [ne_eq, Decidable.not_not]; exact List.length_eq_zero_iff.1 (by omega))]
      rfl)
    have e1 : ((s.size : Int) == 1) = true := beq_iff_eq.2 (by omega)
    clear hz hmag hrl hlen hn0 hneg hb0
    generalize (byt s 0 : Nat) = c0 at *
    generalize numP s.data.toList most = V at *
    go_enter Tryz.func53, Tryz.ntmps53
    go_wp2
    go_ret2
    exact ⟨by rw [HV.out]; rfl, rfl⟩
  have e1 : ((s.size : Int) == 1) = false := beq_eq_false_iff_ne.2 (by omega)
  by_cases hl : most < s.size - 1
  · have HV : Hid (numP s.data.toList most = .tuple #[.int .i64 0, .bool false]) := numP_no (by
      unfold numB
      rw [decide_eq_false (show ¬ (magL s.data.toList).length ≤ most by omega), Bool.and_false]
      rfl)
    have q2 : (most : Int) < (s.size : Int) - 1 := by omega
    clear hz hl hmag hrl hlen hn0 hneg hb0
    generalize (byt s 0 : Nat) = c0 at *
    generalize numP s.data.toList most = V at *
    go_enter Tryz.func53, Tryz.ntmps53
    go_wp2
    go_ret2
    exact ⟨by rw [HV.out]; rfl, rfl⟩
  have q2 : ¬ (most : Int) < (s.size : Int) - 1 := by omega
  have hat : 1 < s.size := by omega
  have d1 := getD1 s
  replace d1 := fun W => d1 W hat
  have hhd := head_byt s 1 hat
  rw [← hmag] at hhd
  have gt1 : decide (1 < s.data.toList.length) = decide ((1 : Int) < (s.size : Int)) := by rw [hlen]; apply decide_eq_decide.2; omega
  by_cases h48 : byt s 1 = 48 ∧ 1 < s.size
  · have HV : Hid (numP s.data.toList most = .tuple #[.int .i64 0, .bool false]) := numP_no (by
      unfold numB
      rw [decide_eq_true (hhd.2 h48.1), decide_eq_true (show 1 < s.data.toList.length by omega)]
      simp)
    have q3 : (((byt s 1 : Nat) : Int) == 48) = true := beq_iff_eq.2 (by omega)
    have q4 : (1 : Int) < (s.size : Int) := by omega
    clear hz hl hmag hrl hlen hn0 hneg hb0 h48 hhd gt1 hat
    generalize numP s.data.toList most = V at *
    generalize (byt s 0 : Nat) = c0 at *
    generalize (byt s 1 : Nat) = c1 at *
    go_enter Tryz.func53, Tryz.ntmps53
    go_wp2
    go_ret2
    exact ⟨by rw [HV.out]; rfl, rfl⟩
  obtain ⟨q, hq⟩ : ∃ q, (((byt s 1 : Nat) : Int) == 48) = q := ⟨_, rfl⟩
  have hq1 : q = true → ¬ (1 : Int) < (s.size : Int) := by
    intro hh
    subst hh
    have := beq_iff_eq.1 hq
    omega
  obtain ⟨AA, hAA⟩ : ∃ b, (s.data.toList.drop 1).all digC = b := ⟨_, rfl⟩
  obtain ⟨TT, hTT⟩ : ∃ n, digN 0 (s.data.toList.drop 1) = n := ⟨_, rfl⟩
  have hnB : numB s.data.toList most = AA := by
    unfold numB
    rw [decide_eq_true (show magL s.data.toList ≠ [] from fun e => by rw [e] at hrl; simp at hrl; omega), decide_eq_true (show (magL s.data.toList).length ≤ most by omega), hmag, hAA]
    have : (!(decide ((s.data.toList.drop 1).head? = some 48) && decide (1 < s.data.toList.length))) = true := by
      rw [← hmag, Bool.not_eq_true', Bool.and_eq_false_iff, decide_eq_false_iff_not, decide_eq_false_iff_not, hhd, hlen]
      by_cases hx : byt s 1 = 48
      · right; intro hy; exact h48 ⟨hx, hy⟩
      · left; exact hx
    rw [this]
    rfl
  have HNO : Hid (AA = false → numP s.data.toList most = .tuple #[.int .i64 0, .bool false]) := fun h => numP_no (hnB.trans h)
  have HYES : Hid (AA = true → numP s.data.toList most = .tuple #[.int .i64 (-(TT : Int)), .bool true]) := fun h => by
    rw [numP_yes (hnB.trans h), hneg, hmag, hTT]
    rfl
  have HMID : Hid (∀ k v : Nat, 1 ≤ k → k < s.size → v < 10 ^ (k - 1) → (s.data.toList.drop k).all digC = AA → digN v (s.data.toList.drop k) = TT →
      (48 ≤ byt s k ∧ byt s k ≤ 57 ∧ v ≤ 999999999 ∧ 10 * v + (byt s k - 48) < 10 ^ (k + 1 - 1) ∧ (s.data.toList.drop (k + 1)).all digC = AA ∧ digN (10 * v + (byt s k - 48)) (s.data.toList.drop (k + 1)) = TT) ∨ (¬ (48 ≤ byt s k ∧ byt s k ≤ 57) ∧ AA = false)) := by
    intro k v hk1 hk hv ha hd
    have hkl : k < s.data.toList.length := by omega
    rw [dropA hkl, digC_byt] at ha
    rw [dropN hkl] at hd
    by_cases hc : 48 ≤ byt s k ∧ byt s k ≤ 57
    · left
      rw [decide_eq_true hc.1, decide_eq_true hc.2] at ha
      refine ⟨hc.1, hc.2, ?_, ?_, ha, hd⟩
      · have : 10 ^ (k - 1) ≤ 10 ^ 9 := Nat.pow_le_pow_right (by omega) (by omega)
        omega
      · rw [show k + 1 - 1 = (k - 1) + 1 by omega, Nat.pow_succ]
        have := hc.2
        omega
    · right
      refine ⟨hc, ?_⟩
      rw [← ha]
      have : (decide (48 ≤ byt s k) && decide (byt s k ≤ 57)) = false := by
        rw [Bool.eq_false_iff]
        simp only [ne_eq, Bool.and_eq_true, decide_eq_true_eq]
        exact hc
      rw [this]
      rfl
  have HLAST : Hid (∀ k v : Nat, ¬ k < s.size → (s.data.toList.drop k).all digC = AA → digN v (s.data.toList.drop k) = TT → AA = true ∧ v = TT) := by
    intro k v hk ha hd
    rw [show s.data.toList.drop k = [] from by rw [List.drop_eq_nil_iff]; omega] at ha hd
    exact ⟨by rw [← ha]; rfl, hd⟩
  have HA := Lib.hid hAA
  have HT := Lib.hid hTT
  clear hz hl hmag hrl hlen hn0 hneg hb0 h48 hhd gt1 hnB hAA hTT
  generalize numP s.data.toList most = V at *
  have dk := fun (k : Nat) (hk : k < s.size) => run_byt s k hk
  have hbl := byt_le s
  have DK := Lib.hid dk
  have HBL := Lib.hid hbl
  clear dk hbl
  have HMM := Lib.hid hm
  go_enter Tryz.func53, Tryz.ntmps53
  cases q with
  | true =>
    have e4 := hq1 rfl
    clear hq1
    generalize (byt s 0 : Nat) = c0 at d0 e0 
    generalize (byt s 1 : Nat) = c1 at d1 hq
    go_wp2
    go_loop [7, 8] (fun u i => ∃ k v : Nat, 1 ≤ k ∧ k ≤ s.size ∧ i = .int .i64 k ∧ u = .int .i64 v ∧ v < 10 ^ (k - 1) ∧ (s.data.toList.drop k).all digC = AA ∧ digN v (s.data.toList.drop k) = TT) (fun _ i => s.size - (intOf i).toNat)
    case atStart => exact ⟨1, 0, Nat.le_refl _, by omega, rfl, rfl, by decide, HA.out, HT.out⟩
    case round =>
      clear d0 d1
      obtain ⟨k, v, hk1, hk, rfl, rfl, hv, ha, hd⟩ := hrel
      by_cases hlt : k < s.size
      · have hh := HMID.out k v hk1 hlt hv ha hd
        have dk := DK.out k hlt
        have hb := HBL.out k
        clear hv ha hd
        generalize byt s k = c at *
        have hlti : (k : Int) < (s.size : Int) := by omega
        rcases hh with ⟨hc1, hc2, hv5, hv6, hv7, hv8⟩ | ⟨hc, hf⟩
        · have HV6 := Lib.hid hv6
          have HV7 := Lib.hid hv7
          have HV8 := Lib.hid hv8
          clear hv6 hv7 hv8
          have q1 : ¬ (c : Int) < 48 := by omega
          have q2 : ¬ (57 : Int) < (c : Int) := by omega
          go_wp2
          go_round
          case rel => exact ⟨k + 1, 10 * v + (c - 48), by omega, by omega, by go_num, by go_num, HV6.out, HV7.out, HV8.out⟩
          case measure => simp [intOf]; omega
        · have HF := Lib.hid hf
          clear hf
          by_cases hc1 : c < 48
          · have q1 : (c : Int) < 48 := by omega
            go_wp2
            go_ret2
            exact ⟨by rw [HNO.out HF.out]; rfl, rfl⟩
          · have q1 : ¬ (c : Int) < 48 := by omega
            have q2 : (57 : Int) < (c : Int) := by omega
            go_wp2
            go_ret2
            exact ⟨by rw [HNO.out HF.out]; rfl, rfl⟩
      · obtain ⟨ha1, hv1⟩ := HLAST.out k v hlt ha hd
        have HA1 := Lib.hid ha1
        have HV1 := Lib.hid hv1
        have hvb : v ≤ 9999999999 := by
          have hmm := HMM.out
          have : 10 ^ (k - 1) ≤ 10 ^ 10 := Nat.pow_le_pow_right (by omega) (by omega)
          omega
        clear hv ha hd ha1 hv1
        have hlti : ¬ (k : Int) < (s.size : Int) := by omega
        go_wp2
        go_ret2
        exact ⟨by rw [HYES.out HA1.out, ← HV1.out]; rfl, rfl⟩
  | false =>
    clear hq1
    generalize (byt s 0 : Nat) = c0 at d0 e0 
    generalize (byt s 1 : Nat) = c1 at d1 hq
    go_wp2
    go_loop [7, 8] (fun u i => ∃ k v : Nat, 1 ≤ k ∧ k ≤ s.size ∧ i = .int .i64 k ∧ u = .int .i64 v ∧ v < 10 ^ (k - 1) ∧ (s.data.toList.drop k).all digC = AA ∧ digN v (s.data.toList.drop k) = TT) (fun _ i => s.size - (intOf i).toNat)
    case atStart => exact ⟨1, 0, Nat.le_refl _, by omega, rfl, rfl, by decide, HA.out, HT.out⟩
    case round =>
      clear d0 d1
      obtain ⟨k, v, hk1, hk, rfl, rfl, hv, ha, hd⟩ := hrel
      by_cases hlt : k < s.size
      · have hh := HMID.out k v hk1 hlt hv ha hd
        have dk := DK.out k hlt
        have hb := HBL.out k
        clear hv ha hd
        generalize byt s k = c at *
        have hlti : (k : Int) < (s.size : Int) := by omega
        rcases hh with ⟨hc1, hc2, hv5, hv6, hv7, hv8⟩ | ⟨hc, hf⟩
        · have HV6 := Lib.hid hv6
          have HV7 := Lib.hid hv7
          have HV8 := Lib.hid hv8
          clear hv6 hv7 hv8
          have q1 : ¬ (c : Int) < 48 := by omega
          have q2 : ¬ (57 : Int) < (c : Int) := by omega
          go_wp2
          go_round
          case rel => exact ⟨k + 1, 10 * v + (c - 48), by omega, by omega, by go_num, by go_num, HV6.out, HV7.out, HV8.out⟩
          case measure => simp [intOf]; omega
        · have HF := Lib.hid hf
          clear hf
          by_cases hc1 : c < 48
          · have q1 : (c : Int) < 48 := by omega
            go_wp2
            go_ret2
            exact ⟨by rw [HNO.out HF.out]; rfl, rfl⟩
          · have q1 : ¬ (c : Int) < 48 := by omega
            have q2 : (57 : Int) < (c : Int) := by omega
            go_wp2
            go_ret2
            exact ⟨by rw [HNO.out HF.out]; rfl, rfl⟩
      · obtain ⟨ha1, hv1⟩ := HLAST.out k v hlt ha hd
        have HA1 := Lib.hid ha1
        have HV1 := Lib.hid hv1
        have hvb : v ≤ 9999999999 := by
          have hmm := HMM.out
          have : 10 ^ (k - 1) ≤ 10 ^ 10 := Nat.pow_le_pow_right (by omega) (by omega)
          omega
        clear hv ha hd ha1 hv1
        have hlti : ¬ (k : Int) < (s.size : Int) := by omega
        go_wp2
        go_ret2
        exact ⟨by rw [HYES.out HA1.out, ← HV1.out]; rfl, rfl⟩
theorem Number_any (s : ByteArray) (most : Nat) (hm : most ≤ 10) (hs : s.size ≤ 1000000) (w : World) :
    Calls Tryz.prog 53 #[.string s, .int .i64 (most : Int)] w fun e w' => e = .returned (numP s.data.toList most) ∧ w = w' := by
  by_cases h0 : 0 < s.size
  · cases hneg : negL s.data.toList with
    | false => exact Number_0 s most hm hs h0 hneg w
    | true => exact Number_1 s most hm hs h0 hneg w
  · have hz : s.data.toList = [] := List.length_eq_zero_iff.1 (by rw [← Lib.size_eq]; omega)
    have HV : Hid (numP s.data.toList most = .tuple #[.int .i64 0, .bool false]) := numP_no (by rw [hz]; rfl)
    have g0 : ¬ (0 : Int) < (s.size : Int) := by omega
    have e0 : ((s.size : Int) == 0) = true := beq_iff_eq.2 (by omega)
    generalize numP s.data.toList most = V at *
    clear hz
    go_enter Tryz.func53, Tryz.ntmps53
    go_wp2
    go_ret2
    exact ⟨by rw [HV.out]; rfl, rfl⟩
end Go.Proofs.YtmcjnfghlpnghaaGreatDoor
