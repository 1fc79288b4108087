/- The reference's text of a number. -/
import Derived.Test.YtmcjnfghlpnghaaGreatDoorT4
namespace Go.Proofs.YtmcjnfghlpnghaaGreatDoor
open Go.RowKit

def StrPost (w : World) (s : ByteArray) (e : Ending) (w' : World) : Prop := e = .returned (.string s) ∧ Below w.heap.size w w'
theorem ba_app (a b : List UInt8) : ba a ++ ba b = ba (a ++ b) := by
  rw [ba_eq]
  simp [ba_data]
def DecRel (w : World) (neg : Bool) (D : List UInt8) (u0 u3 : Value) (wr : World) : Prop :=
  ∃ (m : Nat) (acc : List UInt8), u0 = .int .i64 (if neg then -(m : Int) else (m : Int)) ∧ m ≤ 9223372036854775808 ∧ (neg = false → m ≤ 9223372036854775807) ∧ u3 = .string (ba acc) ∧ (if m = 0 then acc else Lib.decDigits m ++ acc) = D ∧ Below w.heap.size w wr
theorem dec_step {m : Nat} (h : m ≠ 0) (acc D : List UInt8) (he : (if m = 0 then acc else Lib.decDigits m ++ acc) = D) :
    (if m / 10 = 0 then UInt8.ofNat (48 + m % 10) :: acc else Lib.decDigits (m / 10) ++ (UInt8.ofNat (48 + m % 10) :: acc)) = D := by
  rw [if_neg h] at he
  by_cases h10 : m < 10
  · rw [if_pos (by omega), ← he, Lib.decDigits_one h10, Nat.mod_eq_of_lt h10]
    rfl
  · have e : Lib.decDigits m = Lib.decDigits (m / 10) ++ [UInt8.ofNat (48 + m % 10)] := by rw [Lib.decDigits, dif_neg h10]
    rw [if_neg (by omega), ← he, e, List.append_assoc]
    rfl
theorem digit_text (d : Nat) (hd : d ≤ 9) (W : World) : Sem.run Tryz.prog (convert 163 9 (.slice (some ⟨W.heap.size, 0, none⟩) 1 1)) (W.alloc (.cells #[.int .u8 (48 + (d : Int))] 5)) = .ok (.string (ba [UInt8.ofNat (48 + d)])) (W.alloc (.cells #[.int .u8 (48 + (d : Int))] 5)) :=
  run_convert_bytes_back (P := Tryz.prog) (W.alloc (.cells #[.int .u8 (48 + (d : Int))] 5)) 163 9 5 ⟨W.heap.size, 0, none⟩ 1 [UInt8.ofNat (48 + d)] Tryz.underlying163 Tryz.underlying5 Tryz.underlying9 (fun j hj => by
    have : j = 0 := by simpa using hj
    subst this
    rw [show (⟨W.heap.size, 0, none⟩ : Addr).add 0 = ⟨W.heap.size, 0, none⟩ from rfl]
    simp only [List.getElem_cons_zero, (dig_byte d (by omega)).2]
    simp)
theorem dec_len {m : Nat} {acc D : List UInt8} (he : (if m = 0 then acc else Lib.decDigits m ++ acc) = D) : acc.length ≤ D.length := by
  split at he
  · rw [he]; exact Nat.le_refl _
  · rw [← he, List.length_append]; omega
set_option maxRecDepth 100000 in
set_option maxHeartbeats 4000000 in
theorem Decimal_any (n : Int) (h0 : -9223372036854775808 ≤ n) (h1 : n ≤ 9223372036854775807) (w : World) : Calls Tryz.prog 56 #[.int .i64 n] w (StrPost w (ba (Lib.itoa n))) := by
  by_cases hz : n = 0
  · subst hz
    have HV : Hid (ba (Lib.itoa 0) = ⟨#[48]⟩) := by
      rw [Hid, Lib.itoa, if_neg (by omega), show (0 : Int).toNat = 0 from rfl, Lib.decDigits_one (by omega)]
      rfl
    generalize ba (Lib.itoa 0) = V at *
    go_enter Tryz.func56, Tryz.ntmps56
    go_wp2
    go_ret
    exact ⟨by rw [HV.out]; rfl, Below.refl _ _⟩
  · have hz1 : (n == 0) = false := beq_eq_false_iff_ne.2 hz
    by_cases hneg : n < 0
    · have HV : Hid (ba (Lib.itoa n) = ⟨#[45]⟩ ++ ba (Lib.decDigits n.natAbs)) := by rw [Hid, Lib.itoa, if_pos hneg]; exact (ba_app [45] (Lib.decDigits n.natAbs)).symm
      obtain ⟨m0, hm0⟩ : ∃ m : Nat, n = -(m : Int) := ⟨n.natAbs, by omega⟩
      have hm1 : n.natAbs = m0 := by omega
      rw [hm1] at HV
      have hmz : m0 ≠ 0 := by omega
      have hmp : 0 < m0 := by omega
      have hm2 : m0 ≤ 9223372036854775808 := by omega
      have hDl : (Lib.decDigits m0).length ≤ 20 := by rw [Lib.decDigits_length]; exact Lib.nDigits_le20 m0 (by omega)
      generalize hD : Lib.decDigits m0 = D at *
      have HD : Hid ((if m0 = 0 then [] else Lib.decDigits m0 ++ []) = D) := by rw [Hid, if_neg hmz, List.append_nil, hD]
      generalize ba (Lib.itoa n) = V at *
      subst hm0
      clear hm1 hD
      go_enter Tryz.func56, Tryz.ntmps56
      go_wp2
      go_loopw [0, 3, 5] (fun u0 u3 _ wr => DecRel w true D u0 u3 wr) (fun u0 _ _ _ => (intOf u0).natAbs)
      case atStart => exact ⟨m0, [], rfl, by omega, (fun e => by cases e), rfl, HD.out, Below.refl _ _⟩
      case round =>
        clear hz hz1 hneg hmz hm2 HD
        obtain ⟨m, acc, rfl, hm, hmm, rfl, he, hb⟩ := hrel
        have hal := dec_len he
        have hsa : (ba acc).size ≤ 20 := by rw [ba_size]; omega
        simp only [if_true]
        by_cases h : m = 0
        · subst h
          rw [if_pos rfl] at he
          have HE : Hid (ba acc = ba D) := by rw [Hid, he]
          clear he
          generalize ba acc = sa at *
          have q5 : ¬ 9223372036854775807 < 1 + sa.size := by omega
          have q6 : ¬ 9223372036854775807 < sa.size := by omega
          go_wp2
          go_ret
          exact ⟨by rw [HV.out, ← HE.out]; rfl, hb⟩
        · have hst := dec_step h acc D he
          obtain ⟨d, hd⟩ : ∃ d, m % 10 = d := ⟨_, rfl⟩
          obtain ⟨m', hm'⟩ : ∃ m', m / 10 = m' := ⟨_, rfl⟩
          have hd9 : d ≤ 9 := by omega
          have hlt : m' < m := by omega
          have C : ∀ W, Calls Tryz.prog 96 #[.int .i64 (-(d : Int))] W fun e w' => e = .returned (.int .i64 (d : Int)) ∧ W = w' := fun W => by
            have := Size_any (-(d : Int)) (by omega) W
            rw [show sizeI (-(d : Int)) = d by unfold sizeI; omega] at this
            exact this
          have hmi : (-(m : Int) == 0) = false := beq_eq_false_iff_ne.2 (by omega)
          have q1 : (-(m : Int)).tmod 10 = -(d : Int) := by rw [← hd]; rw [Int.neg_tmod]; rfl
          have q2 : (-(m : Int)).tdiv 10 = -(m' : Int) := by rw [← hm']; rw [Int.neg_tdiv]; rfl
          rw [hd, hm'] at hst
          have q3 := digit_text d hd9
          have q4 : ba [UInt8.ofNat (48 + d)] ++ ba acc = ba (UInt8.ofNat (48 + d) :: acc) := by rw [ba_app]; rfl
          have HST : Hid (∀ wr', Below w.heap.size w wr' → DecRel w true D (.int .i64 (-(m' : Int))) (.string (ba [UInt8.ofNat (48 + d)] ++ ba acc)) wr') := fun wr' hb' => ⟨m', _, rfl, by omega, (fun e => by have := hmm e; omega), by rw [q4], hst, hb'⟩
          have hsz := hb.size
          clear he hst q4 hd hm' hmm
          have hsd : (ba [UInt8.ofNat (48 + d)]).size = 1 := ba_size _
          generalize ba [UInt8.ofNat (48 + d)] = sd at *
          generalize ba acc = sa at *
          have q7 : ¬ 9223372036854775807 < sd.size + sa.size := by omega
          have q8 : ¬ 9223372036854775807 < 1 + sa.size := by omega
          go_wp2_with (go_at_call 96; refine (C _).mono ?_; rintro e w' ⟨rfl, rfl⟩)
          go_roundw
          case rel => first | exact HST.out _ (hb.alloc hsz _) | (repeat apply Exists.intro; exact ⟨HST.out _ (hb.alloc hsz _), rfl⟩)
          case measure => simp [intOf]; omega
    · have HV : Hid (ba (Lib.itoa n) = ⟨#[]⟩ ++ ba (Lib.decDigits n.natAbs)) := by rw [Hid, Lib.itoa, if_neg hneg, show n.toNat = n.natAbs by omega]; exact (ba_app [] (Lib.decDigits n.natAbs)).symm
      obtain ⟨m0, hm0⟩ : ∃ m : Nat, n = (m : Int) := ⟨n.natAbs, by omega⟩
      have hm1 : n.natAbs = m0 := by omega
      rw [hm1] at HV
      have hmz : m0 ≠ 0 := by omega
      have hmp : 0 < m0 := by omega
      have hm2 : m0 ≤ 9223372036854775807 := by omega
      have hDl : (Lib.decDigits m0).length ≤ 20 := by rw [Lib.decDigits_length]; exact Lib.nDigits_le20 m0 (by omega)
      generalize hD : Lib.decDigits m0 = D at *
      have HD : Hid ((if m0 = 0 then [] else Lib.decDigits m0 ++ []) = D) := by rw [Hid, if_neg hmz, List.append_nil, hD]
      generalize ba (Lib.itoa n) = V at *
      subst hm0
      clear hm1 hD
      go_enter Tryz.func56, Tryz.ntmps56
      go_wp2
      go_loopw [0, 3, 5] (fun u0 u3 _ wr => DecRel w false D u0 u3 wr) (fun u0 _ _ _ => (intOf u0).natAbs)
      case atStart => exact ⟨m0, [], rfl, by omega, (fun _ => hm2), rfl, HD.out, Below.refl _ _⟩
      case round =>
        clear hz hz1 hneg hmz hm2 HD
        obtain ⟨m, acc, rfl, hm, hmm, rfl, he, hb⟩ := hrel
        have hal := dec_len he
        have hsa : (ba acc).size ≤ 20 := by rw [ba_size]; omega
        simp only [Bool.false_eq_true, if_false]
        by_cases h : m = 0
        · subst h
          rw [if_pos rfl] at he
          have HE : Hid (ba acc = ba D) := by rw [Hid, he]
          clear he
          generalize ba acc = sa at *
          have q5 : ¬ 9223372036854775807 < 1 + sa.size := by omega
          have q6 : ¬ 9223372036854775807 < sa.size := by omega
          go_wp2
          go_ret
          exact ⟨by rw [HV.out, ← HE.out]; rfl, hb⟩
        · have hst := dec_step h acc D he
          obtain ⟨d, hd⟩ : ∃ d, m % 10 = d := ⟨_, rfl⟩
          obtain ⟨m', hm'⟩ : ∃ m', m / 10 = m' := ⟨_, rfl⟩
          have hd9 : d ≤ 9 := by omega
          have hlt : m' < m := by omega
          have C : ∀ W, Calls Tryz.prog 96 #[.int .i64 ((d : Int))] W fun e w' => e = .returned (.int .i64 (d : Int)) ∧ W = w' := fun W => by
            have := Size_any ((d : Int)) (by omega) W
            rw [show sizeI ((d : Int)) = d by unfold sizeI; omega] at this
            exact this
          have hmi : ((m : Int) == 0) = false := beq_eq_false_iff_ne.2 (by omega)
          have q1 : ((m : Int)).tmod 10 = (d : Int) := by rw [← hd]; rfl
          have q2 : ((m : Int)).tdiv 10 = (m' : Int) := by rw [← hm']; rfl
          rw [hd, hm'] at hst
          have q3 := digit_text d hd9
          have q4 : ba [UInt8.ofNat (48 + d)] ++ ba acc = ba (UInt8.ofNat (48 + d) :: acc) := by rw [ba_app]; rfl
          have HST : Hid (∀ wr', Below w.heap.size w wr' → DecRel w false D (.int .i64 ((m' : Int))) (.string (ba [UInt8.ofNat (48 + d)] ++ ba acc)) wr') := fun wr' hb' => ⟨m', _, rfl, by omega, (fun e => by have := hmm e; omega), by rw [q4], hst, hb'⟩
          have hsz := hb.size
          clear he hst q4 hd hm' hmm
          have hsd : (ba [UInt8.ofNat (48 + d)]).size = 1 := ba_size _
          generalize ba [UInt8.ofNat (48 + d)] = sd at *
          generalize ba acc = sa at *
          have q7 : ¬ 9223372036854775807 < sd.size + sa.size := by omega
          have q8 : ¬ 9223372036854775807 < 1 + sa.size := by omega
          go_wp2_with (go_at_call 96; refine (C _).mono ?_; rintro e w' ⟨rfl, rfl⟩)
          go_roundw
          case rel => first | exact HST.out _ (hb.alloc hsz _) | (repeat apply Exists.intro; exact ⟨HST.out _ (hb.alloc hsz _), rfl⟩)
          case measure => simp [intOf]; omega
end Go.Proofs.YtmcjnfghlpnghaaGreatDoor
