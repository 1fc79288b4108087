/- Numbers as texts, and texts cut at blanks: plain. -/
import Derived.Lib.SplitLaws
import Derived.Lib.ItoaLen
import Derived.Lib.AtoiAll
import Derived.Lib.Join
namespace Go.Proofs.YtlbgocgocanloaaGreatDoor
/-- is a byte a digit -/
def digC (c : UInt8) : Bool := decide (48 ≤ c.toNat) && decide (c.toNat ≤ 57)
/-- the number that digits tell, behind a number -/
def digN (v : Nat) (l : List UInt8) : Nat := l.foldl (fun v c => 10 * v + (c.toNat - 48)) v
theorem digN_nil (v : Nat) : digN v [] = v := rfl
theorem digN_cons (v : Nat) (c : UInt8) (l : List UInt8) : digN v (c :: l) = digN (10 * v + (c.toNat - 48)) l := by simp only [digN, List.foldl_cons]
/-- is a text a sign -/
def negL (l : List UInt8) : Bool := l.head? == some 45
/-- what stands behind the sign -/
def magL (l : List UInt8) : List UInt8 := if negL l then l.tail else l
/-- may a text be a number of at most so many digits, by its length and its first digit -/
def numB (l : List UInt8) (most : Nat) : Bool :=
  decide (magL l ≠ []) && decide ((magL l).length ≤ most) && !(decide ((magL l).head? = some 48) && decide (1 < l.length)) && (magL l).all digC
/-- the number that a text tells -/
def numL (l : List UInt8) (most : Nat) : Option Int :=
  if numB l most then some (if negL l then -(digN 0 (magL l) : Int) else (digN 0 (magL l) : Int)) else none
theorem digN_append (v : Nat) (l : List UInt8) (c : UInt8) : digN v (l ++ [c]) = 10 * digN v l + (c.toNat - 48) := by
  simp only [digN, List.foldl_append, List.foldl_cons, List.foldl_nil]
theorem digN_lt (l : List UInt8) (h : l.all digC = true) : digN 0 l < 10 ^ l.length := by
  suffices H : ∀ (l : List UInt8) (v k : Nat), l.all digC = true → v < 10 ^ k → digN v l < 10 ^ (k + l.length) by
    have := H l 0 0 h (by decide)
    simpa using this
  intro l
  induction l with
  | nil => intro v k _ hv; simpa [digN_nil] using hv
  | cons c l ih =>
    intro v k ha hv
    simp only [List.all_cons, Bool.and_eq_true, digC, decide_eq_true_eq] at ha
    have := ih (10 * v + (c.toNat - 48)) (k + 1) ha.2 (by rw [Nat.pow_succ]; omega)
    rw [List.length_cons, digN_cons]
    rw [show k + (l.length + 1) = k + 1 + l.length by omega]
    exact this
theorem digN_ge (l : List UInt8) (v : Nat) : v ≤ digN v l := by
  induction l generalizing v with
  | nil => exact Nat.le_refl _
  | cons c l ih => rw [digN_cons]; exact Nat.le_trans (by omega) (ih _)
theorem digN_pos (c : UInt8) (l : List UInt8) (h1 : digC c = true) (h2 : c ≠ 48) : 1 ≤ digN 0 (c :: l) := by
  have : 1 ≤ c.toNat - 48 := by
    simp only [digC, Bool.and_eq_true, decide_eq_true_eq] at h1
    have : c.toNat ≠ 48 := fun e => h2 (UInt8.toNat_inj.1 e)
    omega
  rw [digN_cons, Nat.mul_zero, Nat.zero_add]
  exact Nat.le_trans this (digN_ge l _)
/-- the digit of a small number -/
theorem dig_byte (d : Nat) (h : d < 10) : digC (UInt8.ofNat (48 + d)) = true ∧ (UInt8.ofNat (48 + d)).toNat = 48 + d := by
  have : ∀ d : Fin 10, digC (UInt8.ofNat (48 + d.val)) = true ∧ (UInt8.ofNat (48 + d.val)).toNat = 48 + d.val := by decide
  exact this ⟨d, h⟩
theorem byte_dig (c : UInt8) (h : digC c = true) : UInt8.ofNat (48 + (c.toNat - 48)) = c := by
  simp only [digC, Bool.and_eq_true, decide_eq_true_eq] at h
  rw [show 48 + (c.toNat - 48) = c.toNat by omega]
  exact UInt8.ofNat_toNat
theorem decDigits_all (u : Nat) : (Lib.decDigits u).all digC = true := by
  induction u using Nat.strongRecOn with
  | _ u ih =>
    by_cases h : u < 10
    · rw [Lib.decDigits_one h]
      simp only [List.all_cons, List.all_nil, (dig_byte u h).1, Bool.and_self]
    · rw [Lib.decDigits, dif_neg h, List.all_append, ih (u / 10) (by omega)]
      simp only [List.all_cons, List.all_nil, (dig_byte (u % 10) (Nat.mod_lt _ (by decide))).1, Bool.and_self]
theorem decDigits_ne (u : Nat) : Lib.decDigits u ≠ [] := by
  intro h
  have h1 := Lib.decDigits_length u
  have h2 := Lib.nDigits_pos u
  rw [h] at h1
  simp at h1
  omega
theorem digN_dec (u : Nat) : digN 0 (Lib.decDigits u) = u := by
  induction u using Nat.strongRecOn with
  | _ u ih =>
    by_cases h : u < 10
    · rw [Lib.decDigits_one h]
      rw [digN_cons, digN_nil, (dig_byte u h).2]
      omega
    · rw [Lib.decDigits, dif_neg h, digN_append, ih (u / 10) (by omega), (dig_byte (u % 10) (by omega)).2]
      omega
theorem decDigits_head (u : Nat) (h0 : 0 < u) : (Lib.decDigits u).head? ≠ some 48 := by
  induction u using Nat.strongRecOn with
  | _ u ih =>
    by_cases h : u < 10
    · rw [Lib.decDigits_one h]
      intro e
      have e1 : UInt8.ofNat (48 + u) = 48 := by simpa using e
      have := (dig_byte u h).2
      rw [e1] at this
      have : (48 : UInt8).toNat = 48 := rfl
      omega
    · rw [Lib.decDigits, dif_neg h]
      have := ih (u / 10) (by omega) (by omega)
      have hne := decDigits_ne (u / 10)
      cases hd : Lib.decDigits (u / 10) with
      | nil => exact absurd hd hne
      | cons a l =>
        rw [hd] at this
        simpa using this
/-- digits with none of naught ahead are the numeral of their number -/
theorem dec_digN : ∀ (r : List UInt8) (c : UInt8) (l : List UInt8), r = (c :: l).reverse → True → r.all digC = true → r ≠ [] → (r.head? ≠ some 48 ∨ r.length = 1) → Lib.decDigits (digN 0 r) = r := by
  suffices H : ∀ (n : Nat) (r : List UInt8), r.length = n → r.all digC = true → r ≠ [] → (r.head? ≠ some 48 ∨ r.length = 1) → Lib.decDigits (digN 0 r) = r by
    intro r _ _ _ _ h1 h2 h3
    exact H _ r rfl h1 h2 h3
  intro n
  induction n with
  | zero => intro r hl _ hne _; exact absurd (List.length_eq_zero_iff.1 hl) hne
  | succ n ih =>
    intro r hl ha hne hh
    obtain ⟨l, c, rfl⟩ : ∃ l c, r = l ++ [c] := ⟨r.dropLast, r.getLast hne, (List.dropLast_concat_getLast hne).symm⟩
    rw [List.all_append, Bool.and_eq_true] at ha
    have hc : digC c = true := by simpa using ha.2
    have hc2 := hc
    simp only [digC, Bool.and_eq_true, decide_eq_true_eq] at hc2
    have hln : l.length = n := by simpa using hl
    rw [digN_append]
    cases l with
    | nil =>
      rw [digN_nil, Lib.decDigits_one (by omega), Nat.mul_zero, Nat.zero_add, List.nil_append]
      rw [byte_dig c hc]
    | cons a l =>
      have hhead : (a :: l).head? ≠ some 48 := by
        rcases hh with hh | hh
        · simpa using hh
        · simp at hh
      have hg := ih (a :: l) hln ha.1 (by simp) (.inl hhead)
      have hpos : 1 ≤ digN 0 (a :: l) := digN_pos a l (by simpa using (List.all_eq_true.1 ha.1 a (by simp))) (by simpa using hhead)
      rw [Lib.decDigits, dif_neg (by omega), show (10 * digN 0 (a :: l) + (c.toNat - 48)) / 10 = digN 0 (a :: l) by omega, show (10 * digN 0 (a :: l) + (c.toNat - 48)) % 10 = c.toNat - 48 by omega, hg, byte_dig c hc]
theorem dec_dig (r : List UInt8) (h1 : r.all digC = true) (h2 : r ≠ []) (h3 : r.head? ≠ some 48 ∨ r.length = 1) : Lib.decDigits (digN 0 r) = r :=
  dec_digN r (r.getLast h2) r.dropLast.reverse (by simp [List.dropLast_concat_getLast h2]) trivial h1 h2 h3
theorem parse_dig : ∀ (r : List UInt8) (v : Nat), r.all digC = true → digN v r < 18446744073709551616 → Lib.parseUint10 v r = .ok (digN v r)
  | [], _, _, _ => rfl
  | c :: l, v, ha, hv => by
    simp only [List.all_cons, Bool.and_eq_true] at ha
    have hc := ha.1
    simp only [digC, Bool.and_eq_true, decide_eq_true_eq] at hc
    rw [digN_cons] at hv
    have hge := digN_ge l (10 * v + (c.toNat - 48))
    rw [Lib.parseUint10, if_pos hc, if_neg (by omega), if_neg (by omega), Nat.mul_comm v 10, digN_cons]
    exact parse_dig l _ ha.2 hv
theorem toNat45 : (45 : UInt8).toNat = 45 := rfl
theorem trim_neg (l : List UInt8) : Lib.trimPrefix l [45] = magL l := by
  unfold Lib.trimPrefix Lib.hasPrefix magL negL
  cases l with
  | nil => rfl
  | cons c r =>
    by_cases h : c = 45
    · subst h; rfl
    · have h1 : ([45] : List UInt8).isPrefixOf (c :: r) = false := by simp [List.isPrefixOf, Ne.symm h]
      rw [h1]
      simp [h]
theorem num_some {l : List UInt8} {most : Nat} {n : Int} (hm : most ≤ 18) (h : numL l most = some n) :
    Lib.atoiAll l = .ok n ∧ Lib.itoa n = l ∧ (Lib.trimPrefix l [45]).length ≤ most ∧ -1000000000000000000 < n ∧ n < 1000000000000000000 := by
  unfold numL at h
  split at h
  case isFalse => exact absurd h (by simp)
  case isTrue hb =>
    simp only [numB, Bool.and_eq_true, decide_eq_true_eq, Bool.not_eq_true', Bool.and_eq_false_iff, decide_eq_false_iff_not] at hb
    obtain ⟨⟨⟨h1, h2⟩, h3⟩, h4⟩ := hb
    rw [trim_neg]
    have hlt : digN 0 (magL l) < 1000000000000000000 := by
      have := digN_lt (magL l) h4
      have : 10 ^ (magL l).length ≤ 10 ^ 18 := Nat.pow_le_pow_right (by decide) (by omega)
      have e : (10 : Nat) ^ 18 = 1000000000000000000 := by decide
      omega
    have hpar := parse_dig (magL l) 0 h4 (by omega)
    cases l with
    | nil => simp [magL, negL] at h1
    | cons c r =>
      by_cases hc : c = 45
      · subst hc
        have hn : negL (45 :: r) = true := by simp [negL]
        have hmg : magL (45 :: r) = r := by simp [magL, hn]
        rw [hmg] at h1 h2 h3 h4 hlt hpar
        rw [hn, if_pos rfl, hmg] at h
        injection h with h
        subst h
        have hh : r.head? ≠ some 48 := by
          rcases h3 with h3 | h3
          · exact h3
          · exfalso
            apply h3
            cases r with
            | nil => exact absurd rfl h1
            | cons a b => simp
        have hpos : 1 ≤ digN 0 r := by
          cases r with
          | nil => exact absurd rfl h1
          | cons a b => exact digN_pos a b (by simpa using (List.all_eq_true.1 h4 a (by simp))) (by simpa using hh)
        refine ⟨?_, ?_, by rw [hmg]; exact h2, by omega, by omega⟩
        · unfold Lib.atoiAll
          simp only [toNat45]
          rw [if_pos (.inr trivial)]
          unfold Lib.parseMag
          rw [if_neg h1, hpar]
          simp only
          rw [if_neg (by simp), if_neg (by omega), if_pos trivial]
        · unfold Lib.itoa
          rw [if_pos (by omega), show (-(digN 0 r : Int)).natAbs = digN 0 r by omega, dec_dig r h4 h1 (.inl hh)]
      · have hn : negL (c :: r) = false := by simp [negL, hc]
        have hmg : magL (c :: r) = c :: r := by simp [magL, hn]
        rw [hmg] at h1 h2 h3 h4 hlt hpar
        rw [hn, if_neg (by simp), hmg] at h
        injection h with h
        subst h
        have hcd : digC c = true := by simpa using (List.all_eq_true.1 h4 c (by simp))
        have hcd2 := hcd
        simp only [digC, Bool.and_eq_true, decide_eq_true_eq] at hcd2
        refine ⟨?_, ?_, by rw [hmg]; exact h2, by omega, by omega⟩
        · unfold Lib.atoiAll
          simp only
          rw [if_neg (by omega)]
          unfold Lib.parseMag
          rw [if_neg h1, hpar]
          simp only
          rw [if_neg (by omega), if_neg (fun e => absurd e.1 (by omega)), if_neg (by omega)]
        · unfold Lib.itoa
          rw [if_neg (by omega), show ((digN 0 (c :: r) : Int)).toNat = digN 0 (c :: r) by omega]
          refine dec_dig _ h4 h1 ?_
          rcases h3 with h3 | h3
          · exact .inl h3
          · simp only [List.length_cons] at h3 ⊢
            exact .inr (by omega)
theorem num_itoa (n : Int) (most : Nat) (h : (Lib.trimPrefix (Lib.itoa n) [45]).length ≤ most) : numL (Lib.itoa n) most = some n := by
  rw [trim_neg] at h
  by_cases hn : n < 0
  · have e : Lib.itoa n = 45 :: Lib.decDigits n.natAbs := by unfold Lib.itoa; rw [if_pos hn]
    rw [e] at h ⊢
    have h1 : negL (45 :: Lib.decDigits n.natAbs) = true := by simp [negL]
    have h2 : magL (45 :: Lib.decDigits n.natAbs) = Lib.decDigits n.natAbs := by simp [magL, h1]
    rw [h2] at h
    unfold numL numB
    rw [h2, h1, if_pos (by
      simp only [Bool.and_eq_true, decide_eq_true_eq, Bool.not_eq_true', Bool.and_eq_false_iff, decide_eq_false_iff_not]
      exact ⟨⟨⟨decDigits_ne _, h⟩, .inl (decDigits_head _ (by omega))⟩, decDigits_all _⟩), if_pos rfl, digN_dec]
    congr 1
    omega
  · have e : Lib.itoa n = Lib.decDigits n.toNat := by unfold Lib.itoa; rw [if_neg hn]
    rw [e] at h ⊢
    have h1 : negL (Lib.decDigits n.toNat) = false := by
      have ha := decDigits_all n.toNat
      cases hd : Lib.decDigits n.toNat with
      | nil => exact absurd hd (decDigits_ne _)
      | cons a b =>
        rw [hd] at ha
        have hcd : digC a = true := by simpa using (List.all_eq_true.1 ha a (by simp))
        simp only [negL, List.head?_cons, beq_eq_false_iff_ne, ne_eq, Option.some.injEq]
        intro e45
        rw [e45] at hcd
        exact absurd hcd (by decide)
    have h2 : magL (Lib.decDigits n.toNat) = Lib.decDigits n.toNat := by simp [magL, h1]
    rw [h2] at h
    unfold numL numB
    rw [h2, h1, if_pos (by
      simp only [Bool.and_eq_true, decide_eq_true_eq, Bool.not_eq_true', Bool.and_eq_false_iff, decide_eq_false_iff_not]
      refine ⟨⟨⟨decDigits_ne _, h⟩, ?_⟩, decDigits_all _⟩
      by_cases h0 : 0 < n.toNat
      · exact .inl (decDigits_head _ h0)
      · right
        rw [Lib.decDigits_length, Lib.nDigits_small (by omega)]
        omega), if_neg (by simp), digN_dec]
    congr 1
    omega
theorem num_none {l : List UInt8} {most : Nat} (h : numL l most = none) (n : Int) (hn : Lib.itoa n = l) : ¬ (Lib.trimPrefix l [45]).length ≤ most := by
  intro hl
  subst hn
  rw [num_itoa n most hl] at h
  exact absurd h (by simp)
/-- a number's text has no blank -/
theorem num_blank {l : List UInt8} {most : Nat} {n : Int} (h : numL l most = some n) : (32 : UInt8) ∉ l := by
  unfold numL at h
  split at h
  case isFalse => exact absurd h (by simp)
  case isTrue hb =>
    simp only [numB, Bool.and_eq_true] at hb
    have h4 := hb.2
    rw [List.all_eq_true] at h4
    intro hm
    cases l with
    | nil => simp at hm
    | cons c r =>
      by_cases hc : c = 45
      · subst hc
        have h2 : magL (45 :: r) = r := by simp [magL, negL]
        rw [h2] at h4
        rcases List.mem_cons.1 hm with e | e
        · exact absurd e (by decide)
        · exact absurd (h4 _ e) (by decide)
      · have h2 : magL (c :: r) = c :: r := by simp [magL, negL, hc]
        rw [h2] at h4
        exact absurd (h4 _ hm) (by decide)
theorem nDigits_le (k u : Nat) (hk : 1 ≤ k) (h : u < 10 ^ k) : Lib.nDigits u ≤ k := by
  induction k generalizing u with
  | zero => omega
  | succ k ih =>
    by_cases h10 : u < 10
    · rw [Lib.nDigits_small h10]; omega
    · rw [Lib.nDigits_big h10]
      rw [Nat.pow_succ] at h
      have hk : 1 ≤ k := by
        rcases Nat.eq_zero_or_pos k with e | e
        · subst e; simp at h; omega
        · exact e
      have := ih (u / 10) hk (by omega)
      omega
theorem itoa_mag (n : Int) : Lib.trimPrefix (Lib.itoa n) [45] = Lib.decDigits n.natAbs := by
  rw [trim_neg]
  by_cases hn : n < 0
  · have e : Lib.itoa n = 45 :: Lib.decDigits n.natAbs := by unfold Lib.itoa; rw [if_pos hn]
    rw [e]
    simp [magL, negL]
  · have e : Lib.itoa n = Lib.decDigits n.natAbs := by unfold Lib.itoa; rw [if_neg hn, show n.toNat = n.natAbs by omega]
    rw [e]
    have h1 : negL (Lib.decDigits n.natAbs) = false := by
      have ha := decDigits_all n.natAbs
      cases hd : Lib.decDigits n.natAbs with
      | nil => exact absurd hd (decDigits_ne _)
      | cons a b =>
        rw [hd] at ha
        have hcd : digC a = true := by simpa using (List.all_eq_true.1 ha a (by simp))
        simp only [negL, List.head?_cons, beq_eq_false_iff_ne, ne_eq, Option.some.injEq]
        intro e45
        rw [e45] at hcd
        exact absurd hcd (by decide)
    simp [magL, h1]
theorem itoa_len (n : Int) (k : Nat) (hk : 1 ≤ k) (h : n.natAbs < 10 ^ k) : (Lib.trimPrefix (Lib.itoa n) [45]).length ≤ k := by
  rw [itoa_mag, Lib.decDigits_length]
  exact nDigits_le k _ hk h
theorem itoa_blank (n : Int) : (32 : UInt8) ∉ Lib.itoa n := num_blank (num_itoa n _ (Nat.le_refl _))
/-- a text cut at its blanks -/
def spl : List UInt8 → List (List UInt8)
  | [] => [[]]
  | c :: r => if c = 32 then [] :: spl r else match spl r with
    | [] => [[c]]
    | h :: t => (c :: h) :: t
theorem spl_ne (l : List UInt8) : spl l ≠ [] := by
  cases l with
  | nil => simp [spl]
  | cons c r =>
    rw [spl]
    split
    · simp
    · split <;> simp
theorem spl_pre (p : List UInt8) (r : List UInt8) (hp : (32 : UInt8) ∉ p) : ∃ h t, spl r = h :: t ∧ spl (p ++ r) = (p ++ h) :: t := by
  induction p with
  | nil =>
    cases hs : spl r with
    | nil => exact absurd hs (spl_ne _)
    | cons h t => exact ⟨h, t, rfl, hs⟩
  | cons c p ih =>
    obtain ⟨h, t, h1, h2⟩ := ih (fun hm => hp (List.mem_cons_of_mem _ hm))
    refine ⟨h, t, h1, ?_⟩
    rw [List.cons_append, spl, if_neg (fun e => hp (by simp [e])), h2]
    rfl
theorem spl_blank (p r : List UInt8) (hp : (32 : UInt8) ∉ p) : spl (p ++ 32 :: r) = p :: spl r := by
  obtain ⟨h, t, h1, h2⟩ := spl_pre p (32 :: r) hp
  rw [spl, if_pos rfl] at h1
  injection h1 with e1 e2
  rw [h2, ← e1, ← e2, List.append_nil]
theorem spl_none (p : List UInt8) (hp : (32 : UInt8) ∉ p) : spl p = [p] := by
  obtain ⟨h, t, h1, h2⟩ := spl_pre p [] hp
  rw [spl] at h1
  injection h1 with e1 e2
  rw [List.append_nil] at h2
  rw [h2, ← e1, ← e2, List.append_nil]
theorem spl_mem (l : List UInt8) : (∃ p r, l = p ++ 32 :: r ∧ (32 : UInt8) ∉ p) ∨ (32 : UInt8) ∉ l := by
  induction l with
  | nil => right; simp
  | cons c l ih =>
    by_cases hc : c = 32
    · left; exact ⟨[], l, by rw [hc]; rfl, by simp⟩
    · rcases ih with ⟨p, r, h1, h2⟩ | h
      · left
        exact ⟨c :: p, r, by rw [h1]; rfl, by simp [Ne.symm hc, h2]⟩
      · right
        simp [Ne.symm hc, h]
theorem index_pre (p r : List UInt8) (hp : (32 : UInt8) ∉ p) : Lib.index (p ++ 32 :: r) [32] = (p.length : Int) := by
  induction p with
  | nil => simp [Lib.index, List.isPrefixOf]
  | cons c p ih =>
    have hc : c ≠ 32 := fun e => hp (by simp [e])
    have h0 : ([32] : List UInt8).isPrefixOf (c :: (p ++ 32 :: r)) = false := by simp [List.isPrefixOf, Ne.symm hc]
    rw [List.cons_append, Lib.index, h0, ih (fun hm => hp (List.mem_cons_of_mem _ hm))]
    have h1 : ((p.length : Int) == -1) = false := by rw [beq_eq_false_iff_ne]; omega
    simp [h1]
theorem index_no (p : List UInt8) (hp : (32 : UInt8) ∉ p) : Lib.index p [32] = -1 := by
  induction p with
  | nil => simp [Lib.index]
  | cons c p ih =>
    have hc : c ≠ 32 := fun e => hp (by simp [e])
    have h0 : ([32] : List UInt8).isPrefixOf (c :: p) = false := by simp [List.isPrefixOf, Ne.symm hc]
    rw [Lib.index, h0, ih (fun hm => hp (List.mem_cons_of_mem _ hm))]
    simp
theorem cut_pre (p r : List UInt8) (hp : (32 : UInt8) ∉ p) : Lib.cut (p ++ 32 :: r) [32] = (p, r, true) := by
  unfold Lib.cut
  rw [index_pre p r hp, if_pos (by omega)]
  simp
theorem cut_no (p : List UInt8) (hp : (32 : UInt8) ∉ p) : Lib.cut p [32] = (p, [], false) := by
  unfold Lib.cut
  rw [index_no p hp, if_neg (by omega)]
end Go.Proofs.YtlbgocgocanloaaGreatDoor

/- Byte arrays cut at blanks; what the texts of events and findings tell: plain. -/
namespace Go.Proofs.YtlbgocgocanloaaGreatDoor
/-- bytes as an array of bytes -/
def ba (l : List UInt8) : ByteArray := ⟨l.toArray⟩
theorem ba_data (l : List UInt8) : (ba l).data.toList = l := by simp [ba]
theorem ba_of (s : ByteArray) : ba s.data.toList = s := Lib.mk_data s
theorem ba_size (l : List UInt8) : (ba l).size = l.length := by rw [Lib.size_eq, ba_data]
theorem ba_eq {s : ByteArray} {l : List UInt8} : s = ba l ↔ s.data.toList = l :=
  ⟨fun h => by rw [h, ba_data], fun h => by rw [← h, ba_of]⟩
/-- the words of the kinds of events -/
def wordL (k : Nat) : List UInt8 := [[103, 111], [115, 116, 111, 112], [103, 97, 116, 101], [98, 97, 114], [111, 112, 101, 110], [115, 104, 117, 116], [97, 108, 97, 114, 109], [99, 97, 108, 109]].getD k []
/-- has a kind a number -/
def useB (k : Nat) : Bool := decide (1 ≤ k) && decide (k ≤ 5)
theorem word_blank (k : Nat) (h : k < 8) : (32 : UInt8) ∉ wordL k := by
  have : ∀ k : Fin 8, (32 : UInt8) ∉ wordL k.val := by decide
  exact this ⟨k, h⟩
theorem word_inj {i j : Nat} (hi : i < 8) (hj : j < 8) (h : wordL i = wordL j) : i = j := by
  have : ∀ i j : Fin 8, wordL i.val = wordL j.val → i.val = j.val := by decide
  exact this ⟨i, hi⟩ ⟨j, hj⟩ h
/-- the text of an event -/
def fmtE (k pl dr : Int) : List UInt8 :=
  if k = 1 then wordL 1 ++ 32 :: Lib.itoa pl else if 2 ≤ k ∧ k ≤ 5 then wordL k.toNat ++ 32 :: Lib.itoa dr else if 0 ≤ k ∧ k ≤ 7 then wordL k.toNat else []
/-- the event with a kind and a number's text -/
def numE (k : Nat) (x : List UInt8) : Option (Int × Int × Int) :=
  match numL x 10 with
  | some n => if n < 0 then none else some (if k = 1 then ((k : Int), n, 0) else ((k : Int), 0, n))
  | none => none
def evOf (k : Nat) : List (List UInt8) → Option (Int × Int × Int)
  | [] => if useB k then none else some ((k : Int), 0, 0)
  | [x] => if useB k then numE k x else none
  | _ => none
def findK (w : List UInt8) : Option Nat := (List.range 8).find? fun k => wordL k == w
/-- the event that a text tells -/
def parE (l : List UInt8) : Option (Int × Int × Int) :=
  match spl l with
  | [] => none
  | w :: r => match findK w with
    | none => none
    | some k => evOf k r
theorem findK_some {w : List UInt8} {k : Nat} (h : findK w = some k) : k < 8 ∧ wordL k = w := by
  unfold findK at h
  have h1 := List.find?_some h
  have h2 := List.mem_of_find?_eq_some h
  exact ⟨List.mem_range.1 h2, beq_iff_eq.1 h1⟩
theorem findK_none {w : List UInt8} (h : findK w = none) (k : Nat) (hk : k < 8) : wordL k ≠ w := by
  unfold findK at h
  rw [List.find?_eq_none] at h
  have := h k (List.mem_range.2 hk)
  simpa using this
theorem findK_word (k : Nat) (hk : k < 8) : findK (wordL k) = some k := by
  cases h : findK (wordL k) with
  | none => exact absurd rfl (findK_none h k hk)
  | some j =>
    obtain ⟨h1, h2⟩ := findK_some h
    rw [word_inj h1 hk h2]
theorem numE_blank {k : Nat} {x : List UInt8} (h : (32 : UInt8) ∈ x) : numE k x = none := by
  unfold numE
  cases hn : numL x 10 with
  | none => rfl
  | some n => exact absurd h (num_blank hn)
/-- the same by the first blank -/
theorem parE_cut (l : List UInt8) : parE l = match findK (Lib.cut l [32]).1 with
    | none => none
    | some k => if (Lib.cut l [32]).2.2 = useB k then (if useB k then numE k (Lib.cut l [32]).2.1 else some ((k : Int), 0, 0)) else none := by
  rcases spl_mem l with ⟨p, r, rfl, hp⟩ | hno
  · rw [cut_pre p r hp]
    unfold parE
    rw [spl_blank p r hp]
    simp only
    cases hf : findK p with
    | none => rfl
    | some k =>
      simp only
      cases hu : useB k with
      | false =>
        rw [if_neg (by simp)]
        cases hs : spl r with
        | nil => exact absurd hs (spl_ne _)
        | cons a t =>
          cases t with
          | nil => simp [evOf, hu]
          | cons b t => rfl
      | true =>
        simp only [if_true]
        rcases spl_mem r with ⟨p2, r2, rfl, hp2⟩ | hno2
        · rw [spl_blank p2 r2 hp2, numE_blank (by simp)]
          cases hs : spl r2 with
          | nil => exact absurd hs (spl_ne _)
          | cons a t => rfl
        · rw [spl_none r hno2]
          simp [evOf, hu]
  · rw [cut_no l hno]
    unfold parE
    rw [spl_none l hno]
    simp only
    cases hf : findK l with
    | none => rfl
    | some k =>
      simp only
      cases hu : useB k with
      | false => simp [evOf, hu]
      | true => simp [evOf, hu]
/-- what is told is read back -/
theorem parE_fmt (k pl dr : Int) (h0 : 0 ≤ k) (h7 : k ≤ 7) (h1 : k ≠ 1 → pl = 0) (h2 : ¬ (2 ≤ k ∧ k ≤ 5) → dr = 0) (hp : 0 ≤ pl) (hp2 : pl ≤ 1000000000) (hd : 0 ≤ dr) (hd2 : dr ≤ 1000000000) :
    parE (fmtE k pl dr) = some (k, pl, dr) := by
  obtain ⟨j, rfl⟩ : ∃ j : Nat, k = j := ⟨k.toNat, by omega⟩
  have hj : j < 8 := by omega
  unfold fmtE parE
  by_cases hk1 : (j : Int) = 1
  · have hj1 : j = 1 := by omega
    subst hj1
    rw [if_pos hk1, spl_blank _ _ (word_blank 1 (by decide)), spl_none _ (itoa_blank pl)]
    simp only
    rw [findK_word 1 (by decide)]
    simp only [evOf]
    rw [if_pos (by decide), numE, num_itoa pl 10 (itoa_len pl 10 (by decide) (by omega))]
    simp only
    rw [if_neg (by omega), h2 (by omega)]
    simp
  · rw [if_neg hk1]
    by_cases hk2 : 2 ≤ (j : Int) ∧ (j : Int) ≤ 5
    · rw [if_pos hk2, Int.toNat_natCast, spl_blank _ _ (word_blank j hj), spl_none _ (itoa_blank dr)]
      simp only
      rw [findK_word j hj]
      simp only [evOf]
      rw [if_pos (by simp [useB]; omega), numE, num_itoa dr 10 (itoa_len dr 10 (by decide) (by omega))]
      simp only
      rw [if_neg (by omega), if_neg (by omega), h1 hk1]
    · rw [if_neg hk2, if_pos ⟨h0, h7⟩, Int.toNat_natCast, spl_none _ (word_blank j hj)]
      simp only
      rw [findK_word j hj]
      simp only [evOf]
      rw [if_neg (by simp [useB]; omega), h1 hk1, h2 hk2]
theorem word_len (k : Nat) : (wordL k).length ≤ 5 := by
  by_cases h : k < 8
  · have : ∀ k : Fin 8, (wordL k.val).length ≤ 5 := by decide
    exact this ⟨k, h⟩
  · unfold wordL
    rw [List.getD_eq_getElem?_getD, List.getElem?_eq_none (by simp; omega)]
    decide
theorem fmtE_len (k pl dr : Int) (hp : -9223372036854775808 ≤ pl ∧ pl ≤ 9223372036854775807) (hd : -9223372036854775808 ≤ dr ∧ dr ≤ 9223372036854775807) : (fmtE k pl dr).length ≤ 27 := by
  have h1 := Lib.itoa_length_le pl hp.1 hp.2
  have h2 := Lib.itoa_length_le dr hd.1 hd.2
  have h3 := word_len k.toNat
  have h4 := word_len 1
  unfold fmtE
  split
  · simp; omega
  · split
    · simp; omega
    · split
      · omega
      · simp
end Go.Proofs.YtlbgocgocanloaaGreatDoor
