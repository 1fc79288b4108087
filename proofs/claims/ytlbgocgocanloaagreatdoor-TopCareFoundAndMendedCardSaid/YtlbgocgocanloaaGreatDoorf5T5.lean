/- Byte arrays cut at blanks; what the texts of events and findings tell: plain. -/
import Derived.Test.YtlbgocgocanloaaGreatDoorf5T1
import Derived.Test.YtlbgocgocanloaaGreatDoorf5H4
import Derived.Test.YtlbgocgocanloaaGreatDoorf5Shelf
namespace Go.Proofs.YtlbgocgocanloaaGreatDoor
/-- bytes as an array of bytes -/
def ba (l : List UInt8) : ByteArray := ⟨l.toArray⟩
theorem ba_data (l : List UInt8) : (ba l).data.toList = l := by simp [ba]
theorem ba_of (s : ByteArray) : ba s.data.toList = s := Lib.mk_data s
theorem ba_size (l : List UInt8) : (ba l).size = l.length := by rw [Lib.size_eq, ba_data]
/-- a text cut at its blanks -/
def splB (s : ByteArray) : List ByteArray := (spl s.data.toList).map ba
theorem map_ba {l : List ByteArray} {m : List (List UInt8)} (h : l.map (·.data.toList) = m) : l = m.map ba := by
  rw [← h, List.map_map]
  conv => lhs; rw [← List.map_id l]
  exact List.map_congr_left fun s _ => (ba_of s).symm
theorem splitB_spl (s : ByteArray) : Lib.splitB ⟨#[32]⟩ 0 (Lib.countB s ⟨#[32]⟩) s = splB s := by
  refine map_ba ?_
  rw [Lib.splitB_data]
  exact split_spl _
theorem splitB_len (s : ByteArray) : Lib.countB s ⟨#[32]⟩ + 1 = (splB s).length := by
  rw [← splitB_spl, Lib.splitB_all ⟨#[32]⟩ (by decide) 0 _ s rfl]
theorem spl_len (l : List UInt8) : (spl l).length ≤ l.length + 1 := by
  induction l with
  | nil => simp [spl]
  | cons c r ih =>
    rw [spl]
    split
    · simp; omega
    · split
      · simp
      · rename_i h t e
        rw [e] at ih
        simp at ih ⊢
        omega
theorem splB_len (s : ByteArray) : (splB s).length ≤ s.size + 1 := by
  unfold splB
  rw [List.length_map, Lib.size_eq]
  exact spl_len _
/-- no part is longer than the text -/
theorem spl_part (l : List UInt8) : ∀ p ∈ spl l, p.length ≤ l.length := by
  induction l with
  | nil => intro p hp; simp [spl] at hp; subst hp; simp
  | cons c r ih =>
    intro p hp
    rw [spl] at hp
    split at hp
    · rcases List.mem_cons.1 hp with e | e
      · subst e; simp
      · have := ih p e; simp; omega
    · split at hp
      · rename_i e; exact absurd e (spl_ne r)
      · rename_i h t e
        rw [e] at ih
        rcases List.mem_cons.1 hp with e1 | e1
        · subst e1
          have := ih h (by simp)
          simp; omega
        · have := ih p (by simp [e1])
          simp; omega
theorem splB_part (s : ByteArray) : ∀ p ∈ splB s, p.size ≤ s.size := by
  intro p hp
  unfold splB at hp
  obtain ⟨q, hq, rfl⟩ := List.mem_map.1 hp
  rw [ba_size, Lib.size_eq]
  exact spl_part _ q hq
/-- the text of a finding -/
def fmtF (a : List UInt8) (d b o : Int) : List UInt8 := a ++ 32 :: (Lib.itoa d ++ 32 :: (Lib.itoa b ++ 32 :: Lib.itoa o))
theorem fmtF_join (a : List UInt8) (d b o : Int) : Lib.join [a, Lib.itoa d, Lib.itoa b, Lib.itoa o] [32] = fmtF a d b o := by
  simp [Lib.join_cons, Lib.joinTail, fmtF]
/-- the finding that a text tells, right or not -/
def parF (l : List UInt8) : Option (List UInt8 × Int × Int × Int) :=
  match spl l with
  | [a, x, y, z] => if a = [] then none else match numL x 9, numL y 9, numL z 9 with
    | some d, some b, some o => some (a, d, b, o)
    | _, _, _ => none
  | _ => none
theorem parF_fmt (a : List UInt8) (d b o : Int) (ha : a ≠ []) (h32 : (32 : UInt8) ∉ a) (hd : d.natAbs < 1000000000) (hb : b.natAbs < 1000000000) (ho : o.natAbs < 1000000000) :
    parF (fmtF a d b o) = some (a, d, b, o) := by
  unfold parF fmtF
  rw [spl_blank _ _ h32, spl_blank _ _ (itoa_blank d), spl_blank _ _ (itoa_blank b), spl_none _ (itoa_blank o)]
  simp only
  rw [if_neg ha, num_itoa d 9 (itoa_len d 9 (by decide) (by omega)), num_itoa b 9 (itoa_len b 9 (by decide) (by omega)), num_itoa o 9 (itoa_len o 9 (by decide) (by omega))]
theorem fmtF_len (a : List UInt8) (d b o : Int) (hd : -9223372036854775808 ≤ d ∧ d ≤ 9223372036854775807) (hb : -9223372036854775808 ≤ b ∧ b ≤ 9223372036854775807) (ho : -9223372036854775808 ≤ o ∧ o ≤ 9223372036854775807) : (fmtF a d b o).length ≤ a.length + 66 := by
  have h1 := Lib.itoa_length_le d hd.1 hd.2
  have h2 := Lib.itoa_length_le b hb.1 hb.2
  have h3 := Lib.itoa_length_le o ho.1 ho.2
  simp [fmtF]
  omega
end Go.Proofs.YtlbgocgocanloaaGreatDoor

/- Words of kinds, texts in lists, the number that a text tells: the reference's walks. -/
namespace Go.Proofs.YtlbgocgocanloaaGreatDoor
open Go.RowKit
def strCells (l : List ByteArray) : List Value := l.map .string
end Go.Proofs.YtlbgocgocanloaaGreatDoor

/- Cut: a text at each byte of one kind. -/
namespace Go.Proofs.YtlbgocgocanloaaGreatDoor
open Go.RowKit
def TextsPost (w : World) (l : List ByteArray) (n : Nat) (e : Ending) (w' : World) : Prop :=
  ∃ A c, e = .returned (.slice A n c) ∧ n ≤ c ∧ Rd w' w'.heap.size A (strCells l) ∧ Below w.heap.size w w'
end Go.Proofs.YtlbgocgocanloaaGreatDoor

/- The reference's text of a number. -/
namespace Go.Proofs.YtlbgocgocanloaaGreatDoor
open Go.RowKit
def StrPost (w : World) (s : ByteArray) (e : Ending) (w' : World) : Prop := e = .returned (.string s) ∧ Below w.heap.size w w'
end Go.Proofs.YtlbgocgocanloaaGreatDoor

/- The code's numbers: Atoi, Itoa and TrimPrefix joined. -/
namespace Go.Proofs.YtlbgocgocanloaaGreatDoor
open Go.RowKit
/-- what the library's functions read: the table of powers, both errors, the greatest length; and the table of kinds -/
structure TxtAt (w : World) : Prop where
  kinds : KindsAt w
  tab : Lib.TabIs Tryz.prog w "internal/strconv.uint64pow10" .u64 Lib.pow10Tab
  es : ∃ te pe, w.cell? ⟨3, 0, none⟩ = some (.iface te pe)
  er : ∃ te pe, w.cell? ⟨4, 0, none⟩ = some (.iface te pe)
  mx : ∃ m, w.cell? ⟨1, 0, none⟩ = some (.int .i64 m)
theorem tab_below {n : String} {k : IntKind} {zs : List Int} {w w' : World} (h : Lib.TabIs Tryz.prog w n k zs) (hb : Below w.heap.size w w') : Lib.TabIs Tryz.prog w' n k zs := by
  unfold Lib.TabIs World.var? at h ⊢
  generalize hg : Tryz.prog.globalNamed n = o at h ⊢
  cases o with
  | none => simp at h
  | some g =>
    simp only [Option.bind_some] at h ⊢
    have hlt : g < w.heap.size := by
      rcases Nat.lt_or_ge g w.heap.size with h' | h'
      · exact h'
      · rw [Array.getElem?_eq_none h'] at h; cases h
    rw [hb.block g hlt]
    exact h
theorem TxtAt.below {w w' : World} (h : TxtAt w) (hb : Below w.heap.size w w') : TxtAt w' := by
  obtain ⟨a, b, ⟨c1, c2, c⟩, ⟨d1, d2, d⟩, ⟨m, e⟩⟩ := h
  exact ⟨a.below hb, tab_below b hb, ⟨c1, c2, kept hb c⟩, ⟨d1, d2, kept hb d⟩, ⟨m, kept hb e⟩⟩
theorem grow_below (w : World) (k : Nat) (bs : Array Obj) : Below w.heap.size w (Sort.grow (w.drewN k) bs) := by
  have hh : (w.drewN k).heap = w.heap := rfl
  refine ⟨rfl, rfl, rfl, ?_, fun j hj => ?_⟩
  · simp only [Sort.grow, hh, Array.size_append]
    omega
  · simp only [Sort.grow, hh]
    exact Array.getElem?_append_left hj
theorem Itoa_any (n : Int) (h0 : -9223372036854775808 ≤ n) (h1 : n ≤ 9223372036854775807) (w : World) (ht : TxtAt w) : Calls Tryz.prog 42 #[.int .i64 n] w (StrPost w (ba (Lib.itoa n))) :=
  (Tryz.strconv_Itoa n h0 h1 w ht.tab).mono fun _ _ ⟨he, k, os, hw⟩ => ⟨he, hw ▸ grow_below w k os⟩
theorem atoi_in {l : List UInt8} {v : Int} (h : Lib.atoiAll l = .ok v) : -9223372036854775808 ≤ v ∧ v ≤ 9223372036854775807 := by
  unfold Lib.atoiAll at h
  split at h
  · cases h
  · simp only at h
    split at h
    · cases h
    · cases h
    · split at h
      · cases h
      · split at h
        · cases h
        · injection h with h
          subst h
          rename_i h1 h2
          split
          · rename_i h3
            have := fun h => h2 ⟨h3, h⟩
            omega
          · rename_i h3
            have := fun h => h1 ⟨h3, h⟩
            omega
/-- what number returns -/
def NumPost (w : World) (l : List UInt8) (most : Nat) (e : Ending) (w' : World) : Prop :=
  ∃ n : Int, e = .returned (.tuple #[.int .i64 n, .bool (numL l most).isSome]) ∧ (∀ m, numL l most = some m → n = m) ∧ Below w.heap.size w w'
def AtoiPost (w : World) (v : Int) (e : Ending) (w' : World) : Prop := e = .returned (.tuple #[.int .i64 v, .nilIface]) ∧ Below w.heap.size w w'
theorem Atoi_ok (s : ByteArray) (hs : s.size ≤ 1000000) (v : Int) (h : Lib.atoiAll s.data.toList = .ok v) (w : World) : Calls Tryz.prog 92 #[.string s] w (AtoiPost w v) :=
  (Tryz.strconv_Atoi_ok s (by omega) v h w).mono fun _ _ ⟨he, hw⟩ => ⟨he, by
    rcases hw with rfl | ⟨t, rfl⟩
    · exact Below.refl _ _
    · exact Lib.bytesWorld_below w _ t⟩
def AtoiNo (w : World) (e : Ending) (w' : World) : Prop := ∃ (v : Int) (N : Nat), e = .returned (.tuple #[.int .i64 v, .iface 229 (.pointer (some ⟨N, 0, none⟩))]) ∧ Below w.heap.size w w'
theorem Atoi_no (s : ByteArray) (hs : s.size ≤ 1000000) (h : ∀ v, Lib.atoiAll s.data.toList ≠ .ok v) (w : World) (ht : TxtAt w) : Calls Tryz.prog 92 #[.string s] w (AtoiNo w) := by
  obtain ⟨te, pe, hes⟩ := ht.es
  obtain ⟨te2, pe2, her⟩ := ht.er
  cases hA : Lib.atoiAll s.data.toList with
  | ok v => exact absurd hA (h v)
  | range => exact (Tryz.strconv_Atoi_range s (by omega) hA _ w her (.inr ⟨te2, pe2, rfl⟩)).mono fun _ _ ⟨N, he, _, _, hb⟩ => ⟨_, N, he, hb⟩
  | _ => exact (Tryz.strconv_Atoi_syntax s (by omega) h (by rw [hA]; intro x; cases x) _ w hes (.inr ⟨te, pe, rfl⟩)).mono fun _ _ ⟨N, he, _, _, hb⟩ => ⟨_, N, he, hb⟩
theorem Trim_any (s : ByteArray) (w : World) : Calls Tryz.prog 93 #[.string s, .string ⟨#[45]⟩] w fun e w' => e = .returned (.string (ba (Lib.trimPrefix s.data.toList [45]))) ∧ w = w' :=
  (Tryz.strings_TrimPrefix s ⟨#[45]⟩ w).mono fun _ _ ⟨he, hw⟩ => ⟨he, hw.symm⟩
set_option maxRecDepth 100000 in
theorem number_no (s : ByteArray) (most : Nat) (hs : s.size ≤ 1000000) (hm : most ≤ 10) (h : ∀ v, Lib.atoiAll s.data.toList ≠ .ok v) (w : World) (ht : TxtAt w) :
    Calls Tryz.prog 47 #[.string s, .int .i64 (most : Int)] w (NumPost w s.data.toList most) := by
  have C := Atoi_no s hs h w ht
  have hN : numL s.data.toList most = none := by
    cases hN : numL s.data.toList most with
    | none => rfl
    | some n => exact absurd (num_some (by omega) hN).1 (h n)
  have HR : Hid (∀ (v : Int) e w', e = .returned (.tuple #[.int .i64 v, .bool false]) → Below w.heap.size w w' → NumPost w s.data.toList most e w') := fun v e w' he hb => ⟨v, by rw [he, hN]; rfl, fun m hm => (by rw [hN] at hm; cases hm), hb⟩
  clear hN h
  go_enter Tryz.func47, Tryz.ntmps47
  go_wp2_with (go_at_call 92; refine C.mono ?_; rintro e w1 ⟨v, N, rfl, hb1⟩)
  go_ret2
  exact HR.out v _ _ rfl hb1
set_option maxRecDepth 100000 in
set_option maxHeartbeats 2000000 in
theorem number_any (s : ByteArray) (most : Nat) (hm : most ≤ 10) (hs : s.size ≤ 1000000) (w : World) (ht : TxtAt w) :
    Calls Tryz.prog 47 #[.string s, .int .i64 (most : Int)] w (NumPost w s.data.toList most) := by
  have hTl : (ba (Lib.trimPrefix s.data.toList [45])).size = (Lib.trimPrefix s.data.toList [45]).length := ba_size _
  have TR := fun W => Trim_any s W
  cases hA : Lib.atoiAll s.data.toList with
  | ok v =>
    have hv := atoi_in hA
    have C := Atoi_ok s hs v hA w
    by_cases hI : Lib.itoa v = s.data.toList
    · have IT : ∀ W, TxtAt W → Calls Tryz.prog 42 #[.int .i64 v] W (StrPost W s) := fun W hW => by
        have := Itoa_any v hv.1 hv.2 W hW
        rw [hI, ba_of] at this
        exact this
      cases hN : numL s.data.toList most with
      | some n =>
        obtain ⟨a1, a2, a3, _⟩ := num_some (by omega) hN
        obtain rfl : v = n := by rw [hA] at a1; injection a1
        have HR : Hid (∀ e w', e = .returned (.tuple #[.int .i64 v, .bool true]) → Below w.heap.size w w' → NumPost w s.data.toList most e w') := fun e w' he hb => ⟨v, by rw [he, hN]; rfl, fun m hm => (by rw [hN] at hm; injection hm), hb⟩
        have q : ((ba (Lib.trimPrefix s.data.toList [45])).size : Int) ≤ (most : Int) := by omega
        generalize ba (Lib.trimPrefix s.data.toList [45]) = tp at *
        have HT := Lib.hid ht
        clear a1 a2 a3 hN hI hv hTl hA ht
        go_enter Tryz.func47, Tryz.ntmps47
        go_upto_region 2 with (go_at_call 92; refine C.mono ?_; rintro e w1 ⟨rfl, hb1⟩)
        clear C
        have IT1 := IT w1 (HT.out.below hb1)
        have HB := Lib.hid hb1
        have hsz := hb1.size
        clear IT HT hb1
        go_wp2_with (first | (go_at_call 42; refine IT1.mono ?_; rintro e w2 ⟨rfl, hb2⟩) | (go_at_call 93; refine (TR _).mono ?_; rintro e w' ⟨rfl, rfl⟩))
        go_ret2
        exact HR.out _ _ rfl (HB.out.trans (hb2.mono hsz))
      | none =>
        have a := num_none hN v hI
        have HR : Hid (∀ e w', e = .returned (.tuple #[.int .i64 v, .bool false]) → Below w.heap.size w w' → NumPost w s.data.toList most e w') := fun e w' he hb => ⟨v, by rw [he, hN]; rfl, fun m hm => (by rw [hN] at hm; cases hm), hb⟩
        have QD := Lib.hid (decide_eq_false (show ¬ (ba (Lib.trimPrefix s.data.toList [45])).size ≤ most by omega))
        have q : ¬ ((ba (Lib.trimPrefix s.data.toList [45])).size : Int) ≤ (most : Int) := by omega
        generalize ba (Lib.trimPrefix s.data.toList [45]) = tp at *
        have HT := Lib.hid ht
        clear a hN hI hv hTl hA ht
        go_enter Tryz.func47, Tryz.ntmps47
        go_upto_region 2 with (go_at_call 92; refine C.mono ?_; rintro e w1 ⟨rfl, hb1⟩)
        clear C
        have IT1 := IT w1 (HT.out.below hb1)
        have HB := Lib.hid hb1
        have hsz := hb1.size
        clear IT HT hb1
        go_wp2_with (first | (go_at_call 42; refine IT1.mono ?_; rintro e w2 ⟨rfl, hb2⟩) | (go_at_call 93; refine (TR _).mono ?_; rintro e w' ⟨rfl, rfl⟩))
        go_ret2
        exact HR.out _ _ (by rw [← QD.out]; rfl) (HB.out.trans (hb2.mono hsz))
    · have IT : ∀ W, TxtAt W → Calls Tryz.prog 42 #[.int .i64 v] W (StrPost W (ba (Lib.itoa v))) := fun W hW => Itoa_any v hv.1 hv.2 W hW
      have q : ((ba (Lib.itoa v)).toList == s.toList) = false := by
        rw [Lib.toList_data, Lib.toList_data, ba_data]
        exact beq_eq_false_iff_ne.2 hI
      have hN : numL s.data.toList most = none := by
        cases hN : numL s.data.toList most with
        | none => rfl
        | some n =>
          obtain ⟨a1, a2, _⟩ := num_some (by omega) hN
          obtain rfl : v = n := by rw [hA] at a1; injection a1
          exact absurd a2 hI
      have HR : Hid (∀ e w', e = .returned (.tuple #[.int .i64 v, .bool false]) → Below w.heap.size w w' → NumPost w s.data.toList most e w') := fun e w' he hb => ⟨v, by rw [he, hN]; rfl, fun m hm => (by rw [hN] at hm; cases hm), hb⟩
      generalize ba (Lib.itoa v) = tv at *
      have HT := Lib.hid ht
      clear hN hI hv hTl hA ht TR
      go_enter Tryz.func47, Tryz.ntmps47
      go_upto_region 2 with (go_at_call 92; refine C.mono ?_; rintro e w1 ⟨rfl, hb1⟩)
      clear C
      have IT1 := IT w1 (HT.out.below hb1)
      have HB := Lib.hid hb1
      have hsz := hb1.size
      clear IT HT hb1
      go_wp2_with (go_at_call 42; refine IT1.mono ?_; rintro e w2 ⟨rfl, hb2⟩)
      go_ret2
      exact HR.out _ _ rfl (HB.out.trans (hb2.mono hsz))
  | _ => exact number_no s most hs hm (fun v => by rw [hA]; exact fun h => by cases h) w ht
end Go.Proofs.YtlbgocgocanloaaGreatDoor
