/- Cut: a text at each byte of one kind. -/
import Derived.Test.YtnnnpijepdjanaaGreatC3
namespace Go.Proofs.YtnnnpijepdjanaaGreat
open Go.RowKit

def cutGo (s : ByteArray) (c : Nat) : List UInt8 → Nat → Nat → List ByteArray
  | [], _, a => [s.extract a s.size]
  | x :: xs, k, a => if x.toNat = c then s.extract a k :: cutGo s c xs (k + 1) (k + 1) else cutGo s c xs (k + 1) a
/-- the parts of a text -/
def cutF (s : ByteArray) (c : Nat) : List ByteArray := cutGo s c s.data.toList 0 0
theorem run_slice9 (s : ByteArray) (a k : Nat) (h : a ≤ k) (hk : k ≤ s.size) (W : World) : Sem.run Tryz.prog (Instr.slice 9 (.string s) (some (.int .i64 (a : Int))) (some (.int .i64 (k : Int))) none) W = .ok (.string (s.extract a k)) W :=
  run_slice_string W 9 s .i64 .i64 a k Tryz.underlying9 (by omega) (by omega) (by omega)
theorem run_slice9l (s : ByteArray) (a : Nat) (h : a ≤ s.size) (W : World) : Sem.run Tryz.prog (Instr.slice 9 (.string s) (some (.int .i64 (a : Int))) none none) W = .ok (.string (s.extract a s.size)) W := by
  have := run_slice_string_from_if W 9 s .i64 (a : Int) Tryz.underlying9
  rw [if_pos ⟨by omega, by omega⟩] at this
  exact this
def CutRel (w0 : World) (s : ByteArray) (c : Nat) (tot : List ByteArray) (u5 u6 u7 : Value) (wr : World) : Prop :=
  ∃ (k a : Nat) (acc : List ByteArray), k ≤ s.size ∧ a ≤ k ∧ acc.length ≤ k ∧ u6 = .int .i64 a ∧ u7 = .int .i64 k ∧ acc ++ cutGo s c (s.data.toList.drop k) k a = tot ∧ wr.ownsRow w0.heap.size 9 1 u5 acc.length (strCells acc) ∧ Below w0.heap.size w0 wr
set_option maxRecDepth 100000 in
set_option maxHeartbeats 8000000 in
theorem Cut_any (s : ByteArray) (c : Nat) (hs : s.size ≤ 1000000) (w : World) : Calls Tryz.prog 57 #[.string s, .int .u8 c] w (TextsPost w (cutF s c) (cutF s c).length) := by
  obtain ⟨i1, hi1, hy0, hy1, hy2⟩ := info_parts info9
  obtain ⟨tot, htot⟩ : ∃ t, cutF s c = t := ⟨_, rfl⟩
  rw [htot]
  have HT := Lib.hid htot
  clear htot
  go_enter Tryz.func57, Tryz.ntmps57
  go_wp2
  go_loopw [5, 6, 7] (fun u5 u6 u7 wr => CutRel w s c tot u5 u6 u7 wr) (fun _ _ u7 _ => s.size - (intOf u7).toNat)
  case atStart => exact ⟨0, 0, [], Nat.zero_le _, Nat.le_refl _, Nat.le_refl _, rfl, rfl, HT.out, ⟨rfl, .inl ⟨rfl, rfl⟩⟩, Below.refl _ _⟩
  case round =>
    clear HT
    obtain ⟨k, a, acc, hk, ha, hal, rfl, rfl, he, hown, hb⟩ := hrel
    have HOWN := Lib.hid hown
    obtain ⟨Au, cu, rfl⟩ := rowForm hown
    have HBW := Lib.hid hb
    have hsz := hb.size
    clear hb hown
    by_cases hlt : k < s.size
    · have hkl : k < s.data.toList.length := Nat.lt_of_lt_of_eq hlt (by simp)
      have d1 := run_index9 s k hlt
      rw [dropB hkl] at he
      generalize s.data.toList.getD k 0 = x at *
      clear hkl
      by_cases hx : x.toNat = c
      · rw [cutGo, if_pos hx] at he
        have e1 : ((x.toNat : Int) == (c : Int)) = true := beq_iff_eq.2 (by omega)
        have d2 := run_slice9 s a k ha hk
        generalize s.extract a k = p at *
        have HE : Hid ((acc ++ [p]) ++ cutGo s c (s.data.toList.drop (k + 1)) (k + 1) (k + 1) = tot) := by
          rw [Hid, ← he, List.append_assoc]
          rfl
        clear he hx
        have hba : Below wr.heap.size wr (wr.alloc (.cells #[.string p] 9)) := (Below.refl _ _).alloc (Nat.le_refl _) _
        go_wp2_with (at_builtin; refine stp ?_)
        unfold Stp
        refine wpList_append_lies _ rfl _ _ 22 rfl w.heap.size 9 i1 _ 1 16 Tryz.underlying22 hi1 hy0 hy1 hy2 rfl (by omega) (.slice Au acc.length cu) acc.length (strCells acc) rfl (HOWN.out.alloc _) ⟨wr.heap.size, 0, none⟩ 1 1 [.string p] rfl rfl (news1 (by simp)) (by simp [Value.oneCell']) (by omega) (by simp only [maxLen]; omega) (by omega) (by simp; omega) _ rfl ?_
        intro gg cap w9 hown1 hgrow hat hlt9
        have hb9 : Below w.heap.size w w9 := (HBW.out.trans (hba.mono hsz)).grown hgrow (by have := hba.size; omega) (fun k hk => (ownBlk HOWN.out hk).1)
        have HOWN1 : Hid (w9.ownsRow w.heap.size 9 1 (.slice (some ⟨gg, 0, none⟩) (acc.length + 1) cap) (acc.length + 1) (strCells (acc ++ [p]))) := by
          rw [Hid, strCells, List.map_append]
          exact hown1
        have HB9 := Lib.hid hb9
        clear hown1 hgrow hat hlt9 hb9
        go_wp2
        go_roundw
        case rel => exact ⟨k + 1, k + 1, acc ++ [p], by omega, by omega, by rw [List.length_append]; simp; omega, by go_num, by go_num, HE.out, by rw [List.length_append]; exact HOWN1.out, HB9.out⟩
        case measure => simp [intOf]; omega
      · rw [cutGo, if_neg hx] at he
        have e1 : ((x.toNat : Int) == (c : Int)) = false := beq_eq_false_iff_ne.2 (by omega)
        have HE := Lib.hid he
        clear he hx
        go_wp2
        go_roundw
        case rel => exact ⟨k + 1, a, acc, by omega, by omega, by omega, rfl, by go_num, HE.out, HOWN.out, HBW.out⟩
        case measure => simp [intOf]; omega
    · have hd : s.data.toList.drop k = [] := by rw [List.drop_eq_nil_iff]; simp; omega
      rw [hd, cutGo] at he
      have d2 := run_slice9l s a (by omega)
      generalize s.extract a s.size = p at *
      have HE := Lib.hid he
      clear he hd
      have hba : Below wr.heap.size wr (wr.alloc (.cells #[.string p] 9)) := (Below.refl _ _).alloc (Nat.le_refl _) _
      go_wp2_with (at_builtin; refine stp ?_)
      unfold Stp
      refine wpList_append_lies _ rfl _ _ 22 rfl w.heap.size 9 i1 _ 1 16 Tryz.underlying22 hi1 hy0 hy1 hy2 rfl (by omega) (.slice Au acc.length cu) acc.length (strCells acc) rfl (HOWN.out.alloc _) ⟨wr.heap.size, 0, none⟩ 1 1 [.string p] rfl rfl (news1 (by simp)) (by simp [Value.oneCell']) (by omega) (by simp only [maxLen]; omega) (by omega) (by simp; omega) _ rfl ?_
      intro gg cap w9 hown1 hgrow hat hlt9
      have hb9 : Below w.heap.size w w9 := (HBW.out.trans (hba.mono hsz)).grown hgrow (by have := hba.size; omega) (fun k hk => (ownBlk HOWN.out hk).1)
      have HOWN1 : Hid (w9.ownsRow w.heap.size 9 1 (.slice (some ⟨gg, 0, none⟩) (acc.length + 1) cap) (acc.length + 1) (strCells (acc ++ [p]))) := by
        rw [Hid, strCells, List.map_append]
        exact hown1
      have HB9 := Lib.hid hb9
      clear hown1 hgrow hat hlt9 hb9
      go_wp2
      go_ret
      have hlen : tot.length = acc.length + 1 := by rw [← HE.out, List.length_append]; rfl
      refine ⟨some ⟨gg, 0, none⟩, cap, ?_, ?_, ?_, HB9.out⟩
      · rw [hlen]
        rfl
      · rw [hlen]
        exact own_cap HOWN1.out
      · rw [← HE.out]
        exact rd_own HOWN1.out
end Go.Proofs.YtnnnpijepdjanaaGreat
