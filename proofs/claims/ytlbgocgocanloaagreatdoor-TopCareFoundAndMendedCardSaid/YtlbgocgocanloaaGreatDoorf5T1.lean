/- Work: the copy, few jobs, the closures of its error. -/
import Derived.Test.YtlbgocgocanloaaGreatDoorf5J2
import Derived.Test.YtlbgocgocanloaaGreatDoorf5Z2
import Derived.Test.YtlbgocgocanloaaGreatDoorf5Z8
import Derived.Test.YtlbgocgocanloaaGreatDoorf5Z1
import Derived.Lib.SplitLaws
import Derived.Lib.ItoaLen
import Derived.Lib.AtoiAll
import Derived.Lib.Join
namespace Go.Proofs.YtlbgocgocanloaaGreatDoor
open Go.RowKit
theorem info81 : (Tryz.prog.info? 81).map (fun i => (i.zero, i.size, i.bytes)) = some (some (.agg #[.int .i64 0, .int .i64 0, .int .i64 0]), 3, 24) := by kernel_rfl
theorem isHours_val (n : Int) (b : Bool) (hb : withinB n 0 1000 = b) (w : World) : Calls Tryz.prog 119 #[.int .i64 n] w fun e w' => e = .returned (.bool b) ∧ w = w' := by
  go_enter Tryz.func119, Tryz.ntmps119
  go_wp2_with (go_at_call 41; refine (within_val _ _ _ _ hb _).mono ?_; rintro e w' ⟨rfl, rfl⟩)
  go_ret
  exact ⟨rfl, rfl⟩
theorem isWindow_val (n : Int) (x nw c : Nat) (A : Option Addr) (b : Bool) (hb : withinB n 0 ((nw : Int) - 1) = b) (hn : nw ≤ 1000000000) (w : World) (hc : w.cell? ⟨x, 0, none⟩ = some (.slice A nw c)) :
    Calls Tryz.prog 120 #[.int .i64 n, .pointer (some ⟨x, 0, none⟩)] w fun e w' => e = .returned (.bool b) ∧ w = w' := by
  go_enter Tryz.func120, Tryz.ntmps120
  go_wp2_with (go_at_call 41; refine (within_val _ _ _ _ hb _).mono ?_; rintro e w' ⟨rfl, rfl⟩)
  go_ret
  exact ⟨rfl, rfl⟩
theorem badHr_val (n : Int) (x : Nat) (b : Bool) (hb : badHr n = b) (w : World) (hc : w.cell? ⟨x, 0, none⟩ = some (.func (.func 119) #[] #[])) :
    Calls Tryz.prog 121 #[.int .i64 n, .pointer (some ⟨x, 0, none⟩)] w fun e w' => e = .returned (.bool b) ∧ w = w' := by
  cases hz : withinB n 0 1000
  · have HV : Hid (b = true) := by rw [Hid, ← hb, badHr, hz]; rfl
    go_enter Tryz.func121, Tryz.ntmps121
    go_wp2_with (go_at_call 119; refine (isHours_val _ _ hz _).mono ?_; rintro e w' ⟨rfl, rfl⟩)
    go_ret
    exact ⟨by rw [HV.out]; rfl, rfl⟩
  · have HV : Hid (b = false) := by rw [Hid, ← hb, badHr, hz]; rfl
    go_enter Tryz.func121, Tryz.ntmps121
    go_wp2_with (go_at_call 119; refine (isHours_val _ _ hz _).mono ?_; rintro e w' ⟨rfl, rfl⟩)
    go_ret
    exact ⟨by rw [HV.out]; rfl, rfl⟩
theorem IndexFunc_165 (A : Option Addr) (n c B : Nat) (l : List Int) (x : Nat) (w : World) (hn : n ≤ 1000000000) (hl : l.length = n) (h : Rd w B A (intCells l)) (h0 : w.cell? ⟨x, 0, none⟩ = some (.func (.func 119) #[] #[])) :
    Calls Tryz.prog 136 #[.slice A n c, .func (.func 121) #[] #[.pointer (some ⟨x, 0, none⟩)]] w fun e w' => e = .returned (.int .i64 (idxGo badHr l 0)) ∧ w = w' := by
  have HL := Lib.hid hl; clear hl
  have C := fun n b hb => badHr_val n x b hb w h0
  clear h0
  go_enter Tryz.func136, Tryz.ntmps136
  go_wp2
  go_loop [5, 8] (fun _ i => ∃ k : Nat, k ≤ n ∧ i = .int .i64 k ∧ idxGo badHr (l.drop k) k = idxGo badHr l 0) (fun _ i => n - (intOf i).toNat)
  case atStart => exact ⟨0, Nat.zero_le _, rfl, rfl⟩
  case round =>
    obtain ⟨k, hk, rfl, he⟩ := hrel
    have HE := Lib.hid he; clear he
    by_cases hlt : k < n
    · have hkl : k < l.length := by rw [HL.out]; exact hlt
      obtain ⟨b, off, rfl, _, hc⟩ := h.at_ (intCells_at l k hkl)
      have HS := Lib.hid (drop_at l 0 k hkl)
      clear hkl
      cases hz : badHr (l[k]?.getD 0)
      · have C' := C _ _ hz
        have HZ := Lib.hid hz
        clear hz
        go_wp2_with (go_at_call 121; refine C'.mono ?_; rintro e w' ⟨rfl, rfl⟩)
        go_round
        case rel => exact ⟨k + 1, by omega, by go_num, by rw [← HE.out, HS.out, idxGo]; simp [HZ.out]⟩
        case measure => simp [intOf]; omega
      · have C' := C _ _ hz
        have HZ := Lib.hid hz
        clear hz
        go_wp2_with (go_at_call 121; refine C'.mono ?_; rintro e w' ⟨rfl, rfl⟩)
        go_ret
        exact ⟨by rw [← HE.out, HS.out, idxGo]; simp [HZ.out], rfl⟩
    · go_wp2
      go_ret
      have : l.drop k = [] := by rw [List.drop_eq_nil_iff]; rw [HL.out]; omega
      exact ⟨by rw [← HE.out, this]; rfl, rfl⟩
theorem ContainsFunc_165 (A : Option Addr) (n c B : Nat) (l : List Int) (x : Nat) (w : World) (hn : n ≤ 1000000000) (hl : l.length = n) (h : Rd w B A (intCells l)) (h0 : w.cell? ⟨x, 0, none⟩ = some (.func (.func 119) #[] #[])) :
    Calls Tryz.prog 115 #[.slice A n c, .func (.func 121) #[] #[.pointer (some ⟨x, 0, none⟩)]] w fun e w' => e = .returned (.bool (l.any badHr)) ∧ w = w' := by
  have C := IndexFunc_165 A n c B l x w hn hl h h0
  clear h h0
  go_enter Tryz.func115, Tryz.ntmps115
  go_wp2_with (go_at_call 136; refine C.mono ?_; rintro e w1 ⟨rfl, rfl⟩)
  go_ret
  exact ⟨by rw [← idxGo_nonneg _ l 0]; rfl, rfl⟩
end Go.Proofs.YtlbgocgocanloaaGreatDoor

/- The cars of a train as rooms: what careRooms makes of a state. -/
namespace Go.Proofs.YtlbgocgocanloaaGreatDoor
open Go.RowKit
theorem evCells_append (l m : List Ev) : evCells (l ++ m) = evCells l ++ evCells m := by simp [evCells]
theorem cells2 {W : World} {r t : Nat} {a0 a1 : Value} (h : W.heap[r]? = some (.cells #[a0, a1] t (0, 0))) :
    W.cell? ⟨r, 0, none⟩ = some a0 ∧ W.cell? ⟨r, 1, none⟩ = some a1 ∧ W.frozen? ⟨r, 0, none⟩ = false ∧ W.frozen? ⟨r, 1, none⟩ = false :=
  ⟨by rw [cell_of_row _ _ _ _ _ _ h]; rfl, by rw [cell_of_row _ _ _ _ _ _ h]; rfl, frozen_of_row _ _ _ _ _ h, frozen_of_row _ _ _ _ _ h⟩
theorem rd_ownC {w : World} {B e size n c : Nat} {A : Option Addr} {xs : List Value} (h : w.ownsRow B e size (.slice A n c) n xs) : Rd w w.heap.size A xs := by
  rcases h.2 with ⟨h1, h2⟩ | ⟨g, cap, cur, h1, _⟩
  · intro k u hk
    have := h.1
    rw [h2, Nat.zero_mul] at this
    rw [List.eq_nil_of_length_eq_zero this] at hk
    simp at hk
  · simp only [Value.slice.injEq] at h1
    obtain ⟨rfl, _, rfl⟩ := h1
    exact Rd_of_own h
end Go.Proofs.YtlbgocgocanloaaGreatDoor

/- Numbers as texts, and texts cut at blanks: plain. -/
namespace Go.Proofs.YtlbgocgocanloaaGreatDoor
/-- is a byte a digit -/
def digC (c : UInt8) : Bool := decide (48 ≤ c.toNat) && decide (c.toNat ≤ 57)
/-- the number that digits tell, behind a number -/
def digN (v : Nat) (l : List UInt8) : Nat := l.foldl (fun v c => 10 * v + (c.toNat - 48)) v
theorem digN_nil (v : Nat) : digN v [] = v := rfl
theorem digN_cons (v : Nat) (c : UInt8) (l : List UInt8) : digN v (c :: l) = digN (10 * v + (c.toNat - 48)) l := by simp only [digN, List.foldl_cons]
/-- is a text a sign -/
def negL (l : List UInt8) : Bool := l.head? == some 45
/-- what stands behind the sign -/
def magL (l : List UInt8) : List UInt8 := if negL l then l.tail else l
/-- may a text be a number of at most so many digits, by its length and its first digit -/
def numB (l : List UInt8) (most : Nat) : Bool :=
  decide (magL l ≠ []) && decide ((magL l).length ≤ most) && !(decide ((magL l).head? = some 48) && decide (1 < l.length)) && (magL l).all digC
/-- the number that a text tells -/
def numL (l : List UInt8) (most : Nat) : Option Int :=
  if numB l most then some (if negL l then -(digN 0 (magL l) : Int) else (digN 0 (magL l) : Int)) else none
theorem digN_append (v : Nat) (l : List UInt8) (c : UInt8) : digN v (l ++ [c]) = 10 * digN v l + (c.toNat - 48) := by
  simp only [digN, List.foldl_append, List.foldl_cons, List.foldl_nil]
theorem digN_lt (l : List UInt8) (h : l.all digC = true) : digN 0 l < 10 ^ l.length := by
  suffices H : ∀ (l : List UInt8) (v k : Nat), l.all digC = true → v < 10 ^ k → digN v l < 10 ^ (k + l.length) by
    have := H l 0 0 h (by decide)
    simpa using this
  intro l
  induction l with
  | nil => intro v k _ hv; simpa [digN_nil] using hv
  | cons c l ih =>
    intro v k ha hv
    simp only [List.all_cons, Bool.and_eq_true, digC, decide_eq_true_eq] at ha
    have := ih (10 * v + (c.toNat - 48)) (k + 1) ha.2 (by rw [Nat.pow_succ]; omega)
    rw [List.length_cons, digN_cons]
    rw [show k + (l.length + 1) = k + 1 + l.length by omega]
    exact this
theorem digN_ge (l : List UInt8) (v : Nat) : v ≤ digN v l := by
  induction l generalizing v with
  | nil => exact Nat.le_refl _
  | cons c l ih => rw [digN_cons]; exact Nat.le_trans (by omega) (ih _)
theorem digN_pos (c : UInt8) (l : List UInt8) (h1 : digC c = true) (h2 : c ≠ 48) : 1 ≤ digN 0 (c :: l) := by
  have : 1 ≤ c.toNat - 48 := by
    simp only [digC, Bool.and_eq_true, decide_eq_true_eq] at h1
    have : c.toNat ≠ 48 := fun e => h2 (UInt8.toNat_inj.1 e)
    omega
  rw [digN_cons, Nat.mul_zero, Nat.zero_add]
  exact Nat.le_trans this (digN_ge l _)
/-- the digit of a small number -/
theorem dig_byte (d : Nat) (h : d < 10) : digC (UInt8.ofNat (48 + d)) = true ∧ (UInt8.ofNat (48 + d)).toNat = 48 + d := by
  have : ∀ d : Fin 10, digC (UInt8.ofNat (48 + d.val)) = true ∧ (UInt8.ofNat (48 + d.val)).toNat = 48 + d.val := by decide
  exact this ⟨d, h⟩
theorem byte_dig (c : UInt8) (h : digC c = true) : UInt8.ofNat (48 + (c.toNat - 48)) = c := by
  simp only [digC, Bool.and_eq_true, decide_eq_true_eq] at h
  rw [show 48 + (c.toNat - 48) = c.toNat by omega]
  exact UInt8.ofNat_toNat
theorem decDigits_all (u : Nat) : (Lib.decDigits u).all digC = true := by
  induction u using Nat.strongRecOn with
  | _ u ih =>
    by_cases h : u < 10
    · rw [Lib.decDigits_one h]
      simp only [List.all_cons, List.all_nil, (dig_byte u h).1, Bool.and_self]
    · rw [Lib.decDigits, dif_neg h, List.all_append, ih (u / 10) (by omega)]
      simp only [List.all_cons, List.all_nil, (dig_byte (u % 10) (Nat.mod_lt _ (by decide))).1, Bool.and_self]
theorem decDigits_ne (u : Nat) : Lib.decDigits u ≠ [] := by
  intro h
  have h1 := Lib.decDigits_length u
  have h2 := Lib.nDigits_pos u
  rw [h] at h1
  simp at h1
  omega
theorem digN_dec (u : Nat) : digN 0 (Lib.decDigits u) = u := by
  induction u using Nat.strongRecOn with
  | _ u ih =>
    by_cases h : u < 10
    · rw [Lib.decDigits_one h]
      rw [digN_cons, digN_nil, (dig_byte u h).2]
      omega
    · rw [Lib.decDigits, dif_neg h, digN_append, ih (u / 10) (by omega), (dig_byte (u % 10) (by omega)).2]
      omega
theorem decDigits_head (u : Nat) (h0 : 0 < u) : (Lib.decDigits u).head? ≠ some 48 := by
  induction u using Nat.strongRecOn with
  | _ u ih =>
    by_cases h : u < 10
    · rw [Lib.decDigits_one h]
      intro e
      have e1 : UInt8.ofNat (48 + u) = 48 := by simpa using e
      have := (dig_byte u h).2
      rw [e1] at this
      have : (48 : UInt8).toNat = 48 := rfl
      omega
    · rw [Lib.decDigits, dif_neg h]
      have := ih (u / 10) (by omega) (by omega)
      have hne := decDigits_ne (u / 10)
      cases hd : Lib.decDigits (u / 10) with
      | nil => exact absurd hd hne
      | cons a l =>
        rw [hd] at this
        simpa using this
/-- digits with none of naught ahead are the numeral of their number -/
theorem dec_digN : ∀ (r : List UInt8) (c : UInt8) (l : List UInt8), r = (c :: l).reverse → True → r.all digC = true → r ≠ [] → (r.head? ≠ some 48 ∨ r.length = 1) → Lib.decDigits (digN 0 r) = r := by
  suffices H : ∀ (n : Nat) (r : List UInt8), r.length = n → r.all digC = true → r ≠ [] → (r.head? ≠ some 48 ∨ r.length = 1) → Lib.decDigits (digN 0 r) = r by
    intro r _ _ _ _ h1 h2 h3
    exact H _ r rfl h1 h2 h3
  intro n
  induction n with
  | zero => intro r hl _ hne _; exact absurd (List.length_eq_zero_iff.1 hl) hne
  | succ n ih =>
    intro r hl ha hne hh
    obtain ⟨l, c, rfl⟩ : ∃ l c, r = l ++ [c] := ⟨r.dropLast, r.getLast hne, (List.dropLast_concat_getLast hne).symm⟩
    rw [List.all_append, Bool.and_eq_true] at ha
    have hc : digC c = true := by simpa using ha.2
    have hc2 := hc
    simp only [digC, Bool.and_eq_true, decide_eq_true_eq] at hc2
    have hln : l.length = n := by simpa using hl
    rw [digN_append]
    cases l with
    | nil =>
      rw [digN_nil, Lib.decDigits_one (by omega), Nat.mul_zero, Nat.zero_add, List.nil_append]
      rw [byte_dig c hc]
    | cons a l =>
      have hhead : (a :: l).head? ≠ some 48 := by
        rcases hh with hh | hh
        · simpa using hh
        · simp at hh
      have hg := ih (a :: l) hln ha.1 (by simp) (.inl hhead)
      have hpos : 1 ≤ digN 0 (a :: l) := digN_pos a l (by simpa using (List.all_eq_true.1 ha.1 a (by simp))) (by simpa using hhead)
      rw [Lib.decDigits, dif_neg (by omega), show (10 * digN 0 (a :: l) + (c.toNat - 48)) / 10 = digN 0 (a :: l) by omega, show (10 * digN 0 (a :: l) + (c.toNat - 48)) % 10 = c.toNat - 48 by omega, hg, byte_dig c hc]
theorem dec_dig (r : List UInt8) (h1 : r.all digC = true) (h2 : r ≠ []) (h3 : r.head? ≠ some 48 ∨ r.length = 1) : Lib.decDigits (digN 0 r) = r :=
  dec_digN r (r.getLast h2) r.dropLast.reverse (by simp [List.dropLast_concat_getLast h2]) trivial h1 h2 h3
theorem parse_dig : ∀ (r : List UInt8) (v : Nat), r.all digC = true → digN v r < 18446744073709551616 → Lib.parseUint10 v r = .ok (digN v r)
  | [], _, _, _ => rfl
  | c :: l, v, ha, hv => by
    simp only [List.all_cons, Bool.and_eq_true] at ha
    have hc := ha.1
    simp only [digC, Bool.and_eq_true, decide_eq_true_eq] at hc
    rw [digN_cons] at hv
    have hge := digN_ge l (10 * v + (c.toNat - 48))
    rw [Lib.parseUint10, if_pos hc, if_neg (by omega), if_neg (by omega), Nat.mul_comm v 10, digN_cons]
    exact parse_dig l _ ha.2 hv
theorem toNat45 : (45 : UInt8).toNat = 45 := rfl
theorem trim_neg (l : List UInt8) : Lib.trimPrefix l [45] = magL l := by
  unfold Lib.trimPrefix Lib.hasPrefix magL negL
  cases l with
  | nil => rfl
  | cons c r =>
    by_cases h : c = 45
    · subst h; rfl
    · have h1 : ([45] : List UInt8).isPrefixOf (c :: r) = false := by simp [List.isPrefixOf, Ne.symm h]
      rw [h1]
      simp [h]
theorem num_some {l : List UInt8} {most : Nat} {n : Int} (hm : most ≤ 18) (h : numL l most = some n) :
    Lib.atoiAll l = .ok n ∧ Lib.itoa n = l ∧ (Lib.trimPrefix l [45]).length ≤ most ∧ -1000000000000000000 < n ∧ n < 1000000000000000000 := by
  unfold numL at h
  split at h
  case isFalse => exact absurd h (by simp)
  case isTrue hb =>
    simp only [numB, Bool.and_eq_true, decide_eq_true_eq, Bool.not_eq_true', Bool.and_eq_false_iff, decide_eq_false_iff_not] at hb
    obtain ⟨⟨⟨h1, h2⟩, h3⟩, h4⟩ := hb
    rw [trim_neg]
    have hlt : digN 0 (magL l) < 1000000000000000000 := by
      have := digN_lt (magL l) h4
      have : 10 ^ (magL l).length ≤ 10 ^ 18 := Nat.pow_le_pow_right (by decide) (by omega)
      have e : (10 : Nat) ^ 18 = 1000000000000000000 := by decide
      omega
    have hpar := parse_dig (magL l) 0 h4 (by omega)
    cases l with
    | nil => simp [magL, negL] at h1
    | cons c r =>
      by_cases hc : c = 45
      · subst hc
        have hn : negL (45 :: r) = true := by simp [negL]
        have hmg : magL (45 :: r) = r := by simp [magL, hn]
        rw [hmg] at h1 h2 h3 h4 hlt hpar
        rw [hn, if_pos rfl, hmg] at h
        injection h with h
        subst h
        have hh : r.head? ≠ some 48 := by
          rcases h3 with h3 | h3
          · exact h3
          · exfalso
            apply h3
            cases r with
            | nil => exact absurd rfl h1
            | cons a b => simp
        have hpos : 1 ≤ digN 0 r := by
          cases r with
          | nil => exact absurd rfl h1
          | cons a b => exact digN_pos a b (by simpa using (List.all_eq_true.1 h4 a (by simp))) (by simpa using hh)
        refine ⟨?_, ?_, by rw [hmg]; exact h2, by omega, by omega⟩
        · unfold Lib.atoiAll
          simp only [toNat45]
          rw [if_pos (.inr trivial)]
          unfold Lib.parseMag
          rw [if_neg h1, hpar]
          simp only
          rw [if_neg (by simp), if_neg (by omega), if_pos trivial]
        · unfold Lib.itoa
          rw [if_pos (by omega), show (-(digN 0 r : Int)).natAbs = digN 0 r by omega, dec_dig r h4 h1 (.inl hh)]
      · have hn : negL (c :: r) = false := by simp [negL, hc]
        have hmg : magL (c :: r) = c :: r := by simp [magL, hn]
        rw [hmg] at h1 h2 h3 h4 hlt hpar
        rw [hn, if_neg (by simp), hmg] at h
        injection h with h
        subst h
        have hcd : digC c = true := by simpa using (List.all_eq_true.1 h4 c (by simp))
        have hcd2 := hcd
        simp only [digC, Bool.and_eq_true, decide_eq_true_eq] at hcd2
        refine ⟨?_, ?_, by rw [hmg]; exact h2, by omega, by omega⟩
        · unfold Lib.atoiAll
          simp only
          rw [if_neg (by omega)]
          unfold Lib.parseMag
          rw [if_neg h1, hpar]
          simp only
          rw [if_neg (by omega), if_neg (fun e => absurd e.1 (by omega)), if_neg (by omega)]
        · unfold Lib.itoa
          rw [if_neg (by omega), show ((digN 0 (c :: r) : Int)).toNat = digN 0 (c :: r) by omega]
          refine dec_dig _ h4 h1 ?_
          rcases h3 with h3 | h3
          · exact .inl h3
          · simp only [List.length_cons] at h3 ⊢
            exact .inr (by omega)
theorem num_itoa (n : Int) (most : Nat) (h : (Lib.trimPrefix (Lib.itoa n) [45]).length ≤ most) : numL (Lib.itoa n) most = some n := by
  rw [trim_neg] at h
  by_cases hn : n < 0
  · have e : Lib.itoa n = 45 :: Lib.decDigits n.natAbs := by unfold Lib.itoa; rw [if_pos hn]
    rw [e] at h ⊢
    have h1 : negL (45 :: Lib.decDigits n.natAbs) = true := by simp [negL]
    have h2 : magL (45 :: Lib.decDigits n.natAbs) = Lib.decDigits n.natAbs := by simp [magL, h1]
    rw [h2] at h
    unfold numL numB
    rw [h2, h1, if_pos (by
      simp only [Bool.and_eq_true, decide_eq_true_eq, Bool.not_eq_true', Bool.and_eq_false_iff, decide_eq_false_iff_not]
      exact ⟨⟨⟨decDigits_ne _, h⟩, .inl (decDigits_head _ (by omega))⟩, decDigits_all _⟩), if_pos rfl, digN_dec]
    congr 1
    omega
  · have e : Lib.itoa n = Lib.decDigits n.toNat := by unfold Lib.itoa; rw [if_neg hn]
    rw [e] at h ⊢
    have h1 : negL (Lib.decDigits n.toNat) = false := by
      have ha := decDigits_all n.toNat
      cases hd : Lib.decDigits n.toNat with
      | nil => exact absurd hd (decDigits_ne _)
      | cons a b =>
        rw [hd] at ha
        have hcd : digC a = true := by simpa using (List.all_eq_true.1 ha a (by simp))
        simp only [negL, List.head?_cons, beq_eq_false_iff_ne, ne_eq, Option.some.injEq]
        intro e45
        rw [e45] at hcd
        exact absurd hcd (by decide)
    have h2 : magL (Lib.decDigits n.toNat) = Lib.decDigits n.toNat := by simp [magL, h1]
    rw [h2] at h
    unfold numL numB
    rw [h2, h1, if_pos (by
      simp only [Bool.and_eq_true, decide_eq_true_eq, Bool.not_eq_true', Bool.and_eq_false_iff, decide_eq_false_iff_not]
      refine ⟨⟨⟨decDigits_ne _, h⟩, ?_⟩, decDigits_all _⟩
      by_cases h0 : 0 < n.toNat
      · exact .inl (decDigits_head _ h0)
      · right
        rw [Lib.decDigits_length, Lib.nDigits_small (by omega)]
        omega), if_neg (by simp), digN_dec]
    congr 1
    omega
theorem num_none {l : List UInt8} {most : Nat} (h : numL l most = none) (n : Int) (hn : Lib.itoa n = l) : ¬ (Lib.trimPrefix l [45]).length ≤ most := by
  intro hl
  subst hn
  rw [num_itoa n most hl] at h
  exact absurd h (by simp)
/-- a number's text has no blank -/
theorem num_blank {l : List UInt8} {most : Nat} {n : Int} (h : numL l most = some n) : (32 : UInt8) ∉ l := by
  unfold numL at h
  split at h
  case isFalse => exact absurd h (by simp)
  case isTrue hb =>
    simp only [numB, Bool.and_eq_true] at hb
    have h4 := hb.2
    rw [List.all_eq_true] at h4
    intro hm
    cases l with
    | nil => simp at hm
    | cons c r =>
      by_cases hc : c = 45
      · subst hc
        have h2 : magL (45 :: r) = r := by simp [magL, negL]
        rw [h2] at h4
        rcases List.mem_cons.1 hm with e | e
        · exact absurd e (by decide)
        · exact absurd (h4 _ e) (by decide)
      · have h2 : magL (c :: r) = c :: r := by simp [magL, negL, hc]
        rw [h2] at h4
        exact absurd (h4 _ hm) (by decide)
theorem nDigits_le (k u : Nat) (hk : 1 ≤ k) (h : u < 10 ^ k) : Lib.nDigits u ≤ k := by
  induction k generalizing u with
  | zero => omega
  | succ k ih =>
    by_cases h10 : u < 10
    · rw [Lib.nDigits_small h10]; omega
    · rw [Lib.nDigits_big h10]
      rw [Nat.pow_succ] at h
      have hk : 1 ≤ k := by
        rcases Nat.eq_zero_or_pos k with e | e
        · subst e; simp at h; omega
        · exact e
      have := ih (u / 10) hk (by omega)
      omega
theorem itoa_mag (n : Int) : Lib.trimPrefix (Lib.itoa n) [45] = Lib.decDigits n.natAbs := by
  rw [trim_neg]
  by_cases hn : n < 0
  · have e : Lib.itoa n = 45 :: Lib.decDigits n.natAbs := by unfold Lib.itoa; rw [if_pos hn]
    rw [e]
    simp [magL, negL]
  · have e : Lib.itoa n = Lib.decDigits n.natAbs := by unfold Lib.itoa; rw [if_neg hn, show n.toNat = n.natAbs by omega]
    rw [e]
    have h1 : negL (Lib.decDigits n.natAbs) = false := by
      have ha := decDigits_all n.natAbs
      cases hd : Lib.decDigits n.natAbs with
      | nil => exact absurd hd (decDigits_ne _)
      | cons a b =>
        rw [hd] at ha
        have hcd : digC a = true := by simpa using (List.all_eq_true.1 ha a (by simp))
        simp only [negL, List.head?_cons, beq_eq_false_iff_ne, ne_eq, Option.some.injEq]
        intro e45
        rw [e45] at hcd
        exact absurd hcd (by decide)
    simp [magL, h1]
theorem itoa_len (n : Int) (k : Nat) (hk : 1 ≤ k) (h : n.natAbs < 10 ^ k) : (Lib.trimPrefix (Lib.itoa n) [45]).length ≤ k := by
  rw [itoa_mag, Lib.decDigits_length]
  exact nDigits_le k _ hk h
theorem itoa_blank (n : Int) : (32 : UInt8) ∉ Lib.itoa n := num_blank (num_itoa n _ (Nat.le_refl _))
/-- a text cut at its blanks -/
def spl : List UInt8 → List (List UInt8)
  | [] => [[]]
  | c :: r => if c = 32 then [] :: spl r else match spl r with
    | [] => [[c]]
    | h :: t => (c :: h) :: t
theorem spl_ne (l : List UInt8) : spl l ≠ [] := by
  cases l with
  | nil => simp [spl]
  | cons c r =>
    rw [spl]
    split
    · simp
    · split <;> simp
theorem spl_pre (p : List UInt8) (r : List UInt8) (hp : (32 : UInt8) ∉ p) : ∃ h t, spl r = h :: t ∧ spl (p ++ r) = (p ++ h) :: t := by
  induction p with
  | nil =>
    cases hs : spl r with
    | nil => exact absurd hs (spl_ne _)
    | cons h t => exact ⟨h, t, rfl, hs⟩
  | cons c p ih =>
    obtain ⟨h, t, h1, h2⟩ := ih (fun hm => hp (List.mem_cons_of_mem _ hm))
    refine ⟨h, t, h1, ?_⟩
    rw [List.cons_append, spl, if_neg (fun e => hp (by simp [e])), h2]
    rfl
theorem spl_blank (p r : List UInt8) (hp : (32 : UInt8) ∉ p) : spl (p ++ 32 :: r) = p :: spl r := by
  obtain ⟨h, t, h1, h2⟩ := spl_pre p (32 :: r) hp
  rw [spl, if_pos rfl] at h1
  injection h1 with e1 e2
  rw [h2, ← e1, ← e2, List.append_nil]
theorem spl_none (p : List UInt8) (hp : (32 : UInt8) ∉ p) : spl p = [p] := by
  obtain ⟨h, t, h1, h2⟩ := spl_pre p [] hp
  rw [spl] at h1
  injection h1 with e1 e2
  rw [List.append_nil] at h2
  rw [h2, ← e1, ← e2, List.append_nil]
theorem spl_mem (l : List UInt8) : (∃ p r, l = p ++ 32 :: r ∧ (32 : UInt8) ∉ p) ∨ (32 : UInt8) ∉ l := by
  induction l with
  | nil => right; simp
  | cons c l ih =>
    by_cases hc : c = 32
    · left; exact ⟨[], l, by rw [hc]; rfl, by simp⟩
    · rcases ih with ⟨p, r, h1, h2⟩ | h
      · left
        exact ⟨c :: p, r, by rw [h1]; rfl, by simp [Ne.symm hc, h2]⟩
      · right
        simp [Ne.symm hc, h]
theorem index_pre (p r : List UInt8) (hp : (32 : UInt8) ∉ p) : Lib.index (p ++ 32 :: r) [32] = (p.length : Int) := by
  induction p with
  | nil => simp [Lib.index, List.isPrefixOf]
  | cons c p ih =>
    have hc : c ≠ 32 := fun e => hp (by simp [e])
    have h0 : ([32] : List UInt8).isPrefixOf (c :: (p ++ 32 :: r)) = false := by simp [List.isPrefixOf, Ne.symm hc]
    rw [List.cons_append, Lib.index, h0, ih (fun hm => hp (List.mem_cons_of_mem _ hm))]
    have h1 : ((p.length : Int) == -1) = false := by rw [beq_eq_false_iff_ne]; omega
    simp [h1]
theorem index_no (p : List UInt8) (hp : (32 : UInt8) ∉ p) : Lib.index p [32] = -1 := by
  induction p with
  | nil => simp [Lib.index]
  | cons c p ih =>
    have hc : c ≠ 32 := fun e => hp (by simp [e])
    have h0 : ([32] : List UInt8).isPrefixOf (c :: p) = false := by simp [List.isPrefixOf, Ne.symm hc]
    rw [Lib.index, h0, ih (fun hm => hp (List.mem_cons_of_mem _ hm))]
    simp
theorem split_spl (l : List UInt8) : Lib.split l [32] = spl l := by
  suffices H : ∀ (n : Nat) (l : List UInt8), l.length = n → Lib.split l [32] = spl l from H _ l rfl
  intro n
  induction n using Nat.strongRecOn with
  | _ n ih =>
    intro l hl
    unfold Lib.split
    rcases spl_mem l with ⟨p, r, rfl, hp⟩ | hno
    · have hix := index_pre p r hp
      have hc : Lib.count (p ++ 32 :: r) [32] = Lib.count r [32] + 1 := by
        rw [Lib.count_hit (i := p.length) (by simp) hix]
        have hd : (p ++ 32 :: r).drop (p.length + ([32] : List UInt8).length) = r := by simp
        rw [hd]
        omega
      rw [hc, Lib.splitK, hix, if_neg (by rw [beq_iff_eq]; omega), spl_blank p r hp]
      have := ih r.length (by simp at hl; omega) r rfl
      unfold Lib.split at this
      have hd : (p ++ 32 :: r).drop ((p.length : Int).toNat + ([32] : List UInt8).length) = r := by simp
      rw [hd, this]
      simp
    · rw [spl_none l hno, Lib.count_miss (index_no l hno)]
      rfl
end Go.Proofs.YtlbgocgocanloaaGreatDoor
