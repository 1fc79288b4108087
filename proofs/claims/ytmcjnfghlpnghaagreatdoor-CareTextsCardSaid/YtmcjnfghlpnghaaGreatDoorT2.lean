/- Byte arrays cut at blanks; what the texts of events and findings tell: plain. -/
import Derived.Test.YtmcjnfghlpnghaaGreatDoorT1
namespace Go.Proofs.YtmcjnfghlpnghaaGreatDoor

/-- bytes as an array of bytes -/
def ba (l : List UInt8) : ByteArray := ⟨l.toArray⟩
theorem ba_data (l : List UInt8) : (ba l).data.toList = l := by simp [ba]
theorem ba_of (s : ByteArray) : ba s.data.toList = s := Lib.mk_data s
theorem ba_size (l : List UInt8) : (ba l).size = l.length := by rw [Lib.size_eq, ba_data]
theorem ba_eq {s : ByteArray} {l : List UInt8} : s = ba l ↔ s.data.toList = l :=
  ⟨fun h => by rw [h, ba_data], fun h => by rw [← h, ba_of]⟩
theorem ba_inj {a b : List UInt8} : ba a = ba b ↔ a = b := by rw [ba_eq, ba_data]
/-- a text cut at its blanks -/
def splB (s : ByteArray) : List ByteArray := (spl s.data.toList).map ba
theorem map_ba {l : List ByteArray} {m : List (List UInt8)} (h : l.map (·.data.toList) = m) : l = m.map ba := by
  rw [← h, List.map_map]
  conv => lhs; rw [← List.map_id l]
  exact List.map_congr_left fun s _ => (ba_of s).symm

def cutGo (s : ByteArray) (c : Nat) : List UInt8 → Nat → Nat → List ByteArray
  | [], _, a => [s.extract a s.size]
  | x :: xs, k, a => if x.toNat = c then s.extract a k :: cutGo s c xs (k + 1) (k + 1) else cutGo s c xs (k + 1) a
/-- the parts of a text -/
def cutF (s : ByteArray) (c : Nat) : List ByteArray := cutGo s c s.data.toList 0 0

theorem cutGo_spl (s : ByteArray) : ∀ (xs : List UInt8) (k a : Nat), xs = s.data.toList.drop k → a ≤ k → k ≤ s.data.toList.length →
    ∃ h t, spl xs = h :: t ∧ (cutGo s 32 xs k a).map (·.data.toList) = ((s.data.toList.drop a).take (k - a) ++ h) :: t
  | [], k, a, hx, ha, hk => by
    have : k = s.data.toList.length := by
      have := congrArg List.length hx
      simp only [List.length_drop, List.length_nil] at this
      omega
    refine ⟨[], [], rfl, ?_⟩
    rw [cutGo, List.map_cons, List.map_nil, Lib.extract_data, Lib.size_eq, this, List.append_nil]
  | x :: xs, k, a, hx, ha, hk => by
    have hlt : k < s.data.toList.length := by
      have := congrArg List.length hx
      simp only [List.length_drop, List.length_cons] at this
      omega
    rw [List.drop_eq_getElem_cons hlt] at hx
    injection hx with h1 h2
    by_cases hc : x = 32
    · obtain ⟨h, t, e1, e2⟩ := cutGo_spl s xs (k + 1) (k + 1) h2 (Nat.le_refl _) hlt
      refine ⟨[], spl xs, by rw [spl, if_pos hc], ?_⟩
      rw [cutGo, if_pos (by rw [hc]; rfl), List.map_cons, e2, e1, Lib.extract_data, List.append_nil]
      simp
    · obtain ⟨h, t, e1, e2⟩ := cutGo_spl s xs (k + 1) a h2 (by omega) hlt
      refine ⟨x :: h, t, by rw [spl, if_neg hc, e1], ?_⟩
      have hne : x.toNat ≠ 32 := fun e => hc (UInt8.toNat_inj.1 e)
      rw [cutGo, if_neg hne, e2]
      have e : (s.data.toList.drop a).take (k + 1 - a) = (s.data.toList.drop a).take (k - a) ++ [x] := by
        rw [show k + 1 - a = (k - a) + 1 by omega, List.take_add_one, List.getElem?_drop, show a + (k - a) = k by omega, List.getElem?_eq_getElem hlt, h1]
        rfl
      rw [e, List.append_assoc]
      rfl

theorem cutF_spl (s : ByteArray) : cutF s 32 = splB s := by
  obtain ⟨h, t, e1, e2⟩ := cutGo_spl s s.data.toList 0 0 (by simp) (Nat.le_refl _) (Nat.zero_le _)
  unfold cutF splB
  refine map_ba ?_
  rw [e2, e1]
  simp
theorem splitB_spl (s : ByteArray) : Lib.splitB ⟨#[32]⟩ 0 (Lib.countB s ⟨#[32]⟩) s = splB s := by
  refine map_ba ?_
  rw [Lib.splitB_data]
  exact split_spl _
theorem splitB_len (s : ByteArray) : Lib.countB s ⟨#[32]⟩ + 1 = (splB s).length := by
  rw [← splitB_spl, Lib.splitB_all ⟨#[32]⟩ (by decide) 0 _ s rfl]
theorem splB_pos (s : ByteArray) : 1 ≤ (splB s).length := by
  rw [← splitB_len]; omega
theorem spl_len (l : List UInt8) : (spl l).length ≤ l.length + 1 := by
  induction l with
  | nil => simp [spl]
  | cons c r ih =>
    rw [spl]
    split
    · simp; omega
    · split
      · simp
      · rename_i h t e
        rw [e] at ih
        simp at ih ⊢
        omega
theorem splB_len (s : ByteArray) : (splB s).length ≤ s.size + 1 := by
  unfold splB
  rw [List.length_map, Lib.size_eq]
  exact spl_len _
/-- no part is longer than the text -/
theorem spl_part (l : List UInt8) : ∀ p ∈ spl l, p.length ≤ l.length := by
  induction l with
  | nil => intro p hp; simp [spl] at hp; subst hp; simp
  | cons c r ih =>
    intro p hp
    rw [spl] at hp
    split at hp
    · rcases List.mem_cons.1 hp with e | e
      · subst e; simp
      · have := ih p e; simp; omega
    · split at hp
      · rename_i e; exact absurd e (spl_ne r)
      · rename_i h t e
        rw [e] at ih
        rcases List.mem_cons.1 hp with e1 | e1
        · subst e1
          have := ih h (by simp)
          simp; omega
        · have := ih p (by simp [e1])
          simp; omega
theorem splB_part (s : ByteArray) : ∀ p ∈ splB s, p.size ≤ s.size := by
  intro p hp
  unfold splB at hp
  obtain ⟨q, hq, rfl⟩ := List.mem_map.1 hp
  rw [ba_size, Lib.size_eq]
  exact spl_part _ q hq

/-- the words of the kinds of events -/
def wordL (k : Nat) : List UInt8 := [[103, 111], [115, 116, 111, 112], [103, 97, 116, 101], [98, 97, 114], [111, 112, 101, 110], [115, 104, 117, 116], [97, 108, 97, 114, 109], [99, 97, 108, 109]].getD k []
/-- has a kind a number -/
def useB (k : Nat) : Bool := decide (1 ≤ k) && decide (k ≤ 5)
theorem word_blank (k : Nat) (h : k < 8) : (32 : UInt8) ∉ wordL k := by
  have : ∀ k : Fin 8, (32 : UInt8) ∉ wordL k.val := by decide
  exact this ⟨k, h⟩
theorem word_inj {i j : Nat} (hi : i < 8) (hj : j < 8) (h : wordL i = wordL j) : i = j := by
  have : ∀ i j : Fin 8, wordL i.val = wordL j.val → i.val = j.val := by decide
  exact this ⟨i, hi⟩ ⟨j, hj⟩ h

/-- the text of an event -/
def fmtE (k pl dr : Int) : List UInt8 :=
  if k = 1 then wordL 1 ++ 32 :: Lib.itoa pl else if 2 ≤ k ∧ k ≤ 5 then wordL k.toNat ++ 32 :: Lib.itoa dr else if 0 ≤ k ∧ k ≤ 7 then wordL k.toNat else []
/-- the event with a kind and a number's text -/
def numE (k : Nat) (x : List UInt8) : Option (Int × Int × Int) :=
  match numL x 10 with
  | some n => if n < 0 then none else some (if k = 1 then ((k : Int), n, 0) else ((k : Int), 0, n))
  | none => none
def evOf (k : Nat) : List (List UInt8) → Option (Int × Int × Int)
  | [] => if useB k then none else some ((k : Int), 0, 0)
  | [x] => if useB k then numE k x else none
  | _ => none
def findK (w : List UInt8) : Option Nat := (List.range 8).find? fun k => wordL k == w
/-- the event that a text tells -/
def parE (l : List UInt8) : Option (Int × Int × Int) :=
  match spl l with
  | [] => none
  | w :: r => match findK w with
    | none => none
    | some k => evOf k r

theorem findK_some {w : List UInt8} {k : Nat} (h : findK w = some k) : k < 8 ∧ wordL k = w := by
  unfold findK at h
  have h1 := List.find?_some h
  have h2 := List.mem_of_find?_eq_some h
  exact ⟨List.mem_range.1 h2, beq_iff_eq.1 h1⟩
theorem findK_none {w : List UInt8} (h : findK w = none) (k : Nat) (hk : k < 8) : wordL k ≠ w := by
  unfold findK at h
  rw [List.find?_eq_none] at h
  have := h k (List.mem_range.2 hk)
  simpa using this
theorem findK_word (k : Nat) (hk : k < 8) : findK (wordL k) = some k := by
  cases h : findK (wordL k) with
  | none => exact absurd rfl (findK_none h k hk)
  | some j =>
    obtain ⟨h1, h2⟩ := findK_some h
    rw [word_inj h1 hk h2]

theorem numE_blank {k : Nat} {x : List UInt8} (h : (32 : UInt8) ∈ x) : numE k x = none := by
  unfold numE
  cases hn : numL x 10 with
  | none => rfl
  | some n => exact absurd h (num_blank hn)

/-- the same by the first blank -/
theorem parE_cut (l : List UInt8) : parE l = match findK (Lib.cut l [32]).1 with
    | none => none
    | some k => if (Lib.cut l [32]).2.2 = useB k then (if useB k then numE k (Lib.cut l [32]).2.1 else some ((k : Int), 0, 0)) else none := by
  rcases spl_mem l with ⟨p, r, rfl, hp⟩ | hno
  · rw [cut_pre p r hp]
    unfold parE
    rw [spl_blank p r hp]
    simp only
    cases hf : findK p with
    | none => rfl
    | some k =>
      simp only
      cases hu : useB k with
      | false =>
        rw [if_neg (by simp)]
        cases hs : spl r with
        | nil => exact absurd hs (spl_ne _)
        | cons a t =>
          cases t with
          | nil => simp [evOf, hu]
          | cons b t => rfl
      | true =>
        simp only [if_true]
        rcases spl_mem r with ⟨p2, r2, rfl, hp2⟩ | hno2
        · rw [spl_blank p2 r2 hp2, numE_blank (by simp)]
          cases hs : spl r2 with
          | nil => exact absurd hs (spl_ne _)
          | cons a t => rfl
        · rw [spl_none r hno2]
          simp [evOf, hu]
  · rw [cut_no l hno]
    unfold parE
    rw [spl_none l hno]
    simp only
    cases hf : findK l with
    | none => rfl
    | some k =>
      simp only
      cases hu : useB k with
      | false => simp [evOf, hu]
      | true => simp [evOf, hu]

/-- what is told is read back -/
theorem parE_fmt (k pl dr : Int) (h0 : 0 ≤ k) (h7 : k ≤ 7) (h1 : k ≠ 1 → pl = 0) (h2 : ¬ (2 ≤ k ∧ k ≤ 5) → dr = 0) (hp : 0 ≤ pl) (hp2 : pl ≤ 1000000000) (hd : 0 ≤ dr) (hd2 : dr ≤ 1000000000) :
    parE (fmtE k pl dr) = some (k, pl, dr) := by
  obtain ⟨j, rfl⟩ : ∃ j : Nat, k = j := ⟨k.toNat, by omega⟩
  have hj : j < 8 := by omega
  unfold fmtE parE
  by_cases hk1 : (j : Int) = 1
  · have hj1 : j = 1 := by omega
    subst hj1
    rw [if_pos hk1, spl_blank _ _ (word_blank 1 (by decide)), spl_none _ (itoa_blank pl)]
    simp only
    rw [findK_word 1 (by decide)]
    simp only [evOf]
    rw [if_pos (by decide), numE, num_itoa pl 10 (itoa_len pl 10 (by decide) (by omega))]
    simp only
    rw [if_neg (by omega), h2 (by omega)]
    simp
  · rw [if_neg hk1]
    by_cases hk2 : 2 ≤ (j : Int) ∧ (j : Int) ≤ 5
    · rw [if_pos hk2, Int.toNat_natCast, spl_blank _ _ (word_blank j hj), spl_none _ (itoa_blank dr)]
      simp only
      rw [findK_word j hj]
      simp only [evOf]
      rw [if_pos (by simp [useB]; omega), numE, num_itoa dr 10 (itoa_len dr 10 (by decide) (by omega))]
      simp only
      rw [if_neg (by omega), if_neg (by omega), h1 hk1]
    · rw [if_neg hk2, if_pos ⟨h0, h7⟩, Int.toNat_natCast, spl_none _ (word_blank j hj)]
      simp only
      rw [findK_word j hj]
      simp only [evOf]
      rw [if_neg (by simp [useB]; omega), h1 hk1, h2 hk2]

/-- the text of a finding -/
def fmtF (a : List UInt8) (d b o : Int) : List UInt8 := a ++ 32 :: (Lib.itoa d ++ 32 :: (Lib.itoa b ++ 32 :: Lib.itoa o))
theorem fmtF_join (a : List UInt8) (d b o : Int) : Lib.join [a, Lib.itoa d, Lib.itoa b, Lib.itoa o] [32] = fmtF a d b o := by
  simp [Lib.join_cons, Lib.joinTail, fmtF]
/-- the finding that a text tells, right or not -/
def parF (l : List UInt8) : Option (List UInt8 × Int × Int × Int) :=
  match spl l with
  | [a, x, y, z] => if a = [] then none else match numL x 9, numL y 9, numL z 9 with
    | some d, some b, some o => some (a, d, b, o)
    | _, _, _ => none
  | _ => none
theorem parF_fmt (a : List UInt8) (d b o : Int) (ha : a ≠ []) (h32 : (32 : UInt8) ∉ a) (hd : d.natAbs < 1000000000) (hb : b.natAbs < 1000000000) (ho : o.natAbs < 1000000000) :
    parF (fmtF a d b o) = some (a, d, b, o) := by
  unfold parF fmtF
  rw [spl_blank _ _ h32, spl_blank _ _ (itoa_blank d), spl_blank _ _ (itoa_blank b), spl_none _ (itoa_blank o)]
  simp only
  rw [if_neg ha, num_itoa d 9 (itoa_len d 9 (by decide) (by omega)), num_itoa b 9 (itoa_len b 9 (by decide) (by omega)), num_itoa o 9 (itoa_len o 9 (by decide) (by omega))]
theorem fmtF_len (a : List UInt8) (d b o : Int) (hd : -9223372036854775808 ≤ d ∧ d ≤ 9223372036854775807) (hb : -9223372036854775808 ≤ b ∧ b ≤ 9223372036854775807) (ho : -9223372036854775808 ≤ o ∧ o ≤ 9223372036854775807) : (fmtF a d b o).length ≤ a.length + 66 := by
  have h1 := Lib.itoa_length_le d hd.1 hd.2
  have h2 := Lib.itoa_length_le b hb.1 hb.2
  have h3 := Lib.itoa_length_le o ho.1 ho.2
  simp [fmtF]
  omega
theorem word_len (k : Nat) : (wordL k).length ≤ 5 := by
  by_cases h : k < 8
  · have : ∀ k : Fin 8, (wordL k.val).length ≤ 5 := by decide
    exact this ⟨k, h⟩
  · unfold wordL
    rw [List.getD_eq_getElem?_getD, List.getElem?_eq_none (by simp; omega)]
    decide
theorem fmtE_len (k pl dr : Int) (hp : -9223372036854775808 ≤ pl ∧ pl ≤ 9223372036854775807) (hd : -9223372036854775808 ≤ dr ∧ dr ≤ 9223372036854775807) : (fmtE k pl dr).length ≤ 27 := by
  have h1 := Lib.itoa_length_le pl hp.1 hp.2
  have h2 := Lib.itoa_length_le dr hd.1 hd.2
  have h3 := word_len k.toNat
  have h4 := word_len 1
  unfold fmtE
  split
  · simp; omega
  · split
    · simp; omega
    · split
      · omega
      · simp
end Go.Proofs.YtmcjnfghlpnghaaGreatDoor
