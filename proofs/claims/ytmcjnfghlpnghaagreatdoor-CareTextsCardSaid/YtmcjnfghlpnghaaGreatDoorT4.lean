/- Cut: a text at each byte of one kind. -/
import Derived.Test.YtmcjnfghlpnghaaGreatDoorT3
namespace Go.Proofs.YtmcjnfghlpnghaaGreatDoor
open Go.RowKit

theorem infoS : (Tryz.prog.info? 9).map (fun i => (i.zero, i.size, i.bytes)) = some (some (.string ⟨#[]⟩), 1, 16) := by kernel_rfl
def TextsPost (w : World) (l : List ByteArray) (n : Nat) (e : Ending) (w' : World) : Prop :=
  ∃ A c, e = .returned (.slice A n c) ∧ n ≤ c ∧ Rd w' w'.heap.size A (strCells l) ∧ Below w.heap.size w w'
theorem own_capT {w : World} {B e size n c : Nat} {A : Option Addr} {xs : List Value} (h : w.ownsRow B e size (.slice A n c) n xs) : n ≤ c := by
  rcases h.2 with ⟨h1, h2⟩ | ⟨g, cap, cur, h1, _, _, h3, _⟩
  · omega
  · simp only [Value.slice.injEq] at h1
    omega
theorem rd_ownT {w : World} {B e size n c : Nat} {A : Option Addr} {xs : List Value} (h : w.ownsRow B e size (.slice A n c) n xs) : Rd w w.heap.size A xs := by
  rcases h.2 with ⟨h1, h2⟩ | ⟨g, cap, cur, h1, _⟩
  · intro k u hk
    have := h.1
    rw [h2, Nat.zero_mul] at this
    rw [List.eq_nil_of_length_eq_zero this] at hk
    simp at hk
  · simp only [Value.slice.injEq] at h1
    obtain ⟨rfl, _, rfl⟩ := h1
    exact Rd_of_own h
theorem run_slice9 (s : ByteArray) (a k : Nat) (h : a ≤ k) (hk : k ≤ s.size) (W : World) : Sem.run Tryz.prog (Instr.slice 9 (.string s) (some (.int .i64 (a : Int))) (some (.int .i64 (k : Int))) none) W = .ok (.string (s.extract a k)) W :=
  run_slice_string W 9 s .i64 .i64 a k Tryz.underlying9 (by omega) (by omega) (by omega)
theorem run_slice9l (s : ByteArray) (a : Nat) (h : a ≤ s.size) (W : World) : Sem.run Tryz.prog (Instr.slice 9 (.string s) (some (.int .i64 (a : Int))) none none) W = .ok (.string (s.extract a s.size)) W := by
  have := run_slice_string_from_if W 9 s .i64 (a : Int) Tryz.underlying9
  rw [if_pos ⟨by omega, by omega⟩] at this
  exact this
def CutRel (w0 : World) (s : ByteArray) (c : Nat) (tot : List ByteArray) (u5 u6 u7 : Value) (wr : World) : Prop :=
  ∃ (k a : Nat) (acc : List ByteArray), k ≤ s.size ∧ a ≤ k ∧ acc.length ≤ k ∧ u6 = .int .i64 a ∧ u7 = .int .i64 k ∧ acc ++ cutGo s c (s.data.toList.drop k) k a = tot ∧ wr.ownsRow w0.heap.size 9 1 u5 acc.length (strCells acc) ∧ Below w0.heap.size w0 wr
set_option maxRecDepth 100000 in
set_option maxHeartbeats 8000000 in
theorem Cut_any (s : ByteArray) (c : Nat) (hs : s.size ≤ 1000000) (w : World) : Calls Tryz.prog 50 #[.string s, .int .u8 c] w (TextsPost w (cutF s c) (cutF s c).length) := by
  obtain ⟨i1, hi1, hy0, hy1, hy2⟩ := info_parts infoS
  obtain ⟨tot, htot⟩ : ∃ t, cutF s c = t := ⟨_, rfl⟩
  rw [htot]
  have HT := Lib.hid htot
  clear htot
  go_enter Tryz.func50, Tryz.ntmps50
  go_wp2
  go_loopw [5, 6, 7] (fun u5 u6 u7 wr => CutRel w s c tot u5 u6 u7 wr) (fun _ _ u7 _ => s.size - (intOf u7).toNat)
  case atStart => exact ⟨0, 0, [], Nat.zero_le _, Nat.le_refl _, Nat.le_refl _, rfl, rfl, HT.out, ⟨rfl, .inl ⟨rfl, rfl⟩⟩, Below.refl _ _⟩
  case round =>
    clear HT
    obtain ⟨k, a, acc, hk, ha, hal, rfl, rfl, he, hown, hb⟩ := hrel
    have HOWN := Lib.hid hown
    obtain ⟨Au, cu, rfl⟩ := rowForm hown
    have HBW := Lib.hid hb
    have hsz := hb.size
    clear hb hown
    by_cases hlt : k < s.size
    · have hkl : k < s.data.toList.length := Nat.lt_of_lt_of_eq hlt (by simp)
      have d1 := run_index9 s k hlt
      rw [dropB hkl] at he
      generalize s.data.toList.getD k 0 = x at *
      clear hkl
      by_cases hx : x.toNat = c
      · rw [cutGo, if_pos hx] at he
        have e1 : ((x.toNat : Int) == (c : Int)) = true := beq_iff_eq.2 (by omega)
        have d2 := run_slice9 s a k ha hk
        generalize s.extract a k = p at *
        have HE : Hid ((acc ++ [p]) ++ cutGo s c (s.data.toList.drop (k + 1)) (k + 1) (k + 1) = tot) := by
          rw [Hid, ← he, List.append_assoc]
          rfl
        clear he hx
        have hba : Below wr.heap.size wr (wr.alloc (.cells #[.string p] 9)) := (Below.refl _ _).alloc (Nat.le_refl _) _
        go_wp2_with (at_builtin; refine stp ?_)
        unfold Stp
        refine wpList_append_lies _ rfl _ _ 104 rfl w.heap.size 9 i1 _ 1 16 Tryz.underlying104 hi1 hy0 hy1 hy2 rfl (by omega) (.slice Au acc.length cu) acc.length (strCells acc) rfl (HOWN.out.alloc _) ⟨wr.heap.size, 0, none⟩ 1 1 [.string p] rfl rfl (news1 (by simp)) (by simp [Value.oneCell']) (by omega) (by simp only [maxLen]; omega) (by omega) (by simp; omega) _ rfl ?_
        intro gg cap w9 hown1 hgrow hat hlt9
        have hb9 : Below w.heap.size w w9 := (HBW.out.trans (hba.mono hsz)).grown hgrow (by have := hba.size; omega) (fun k hk => (ownBlk HOWN.out hk).1)
        have HOWN1 : Hid (w9.ownsRow w.heap.size 9 1 (.slice (some ⟨gg, 0, none⟩) (acc.length + 1) cap) (acc.length + 1) (strCells (acc ++ [p]))) := by
          rw [Hid, strCells, List.map_append]
          exact hown1
        have HB9 := Lib.hid hb9
        clear hown1 hgrow hat hlt9 hb9
        go_wp2
        go_roundw
        case rel => exact ⟨k + 1, k + 1, acc ++ [p], by omega, by omega, by rw [List.length_append]; simp; omega, by go_num, by go_num, HE.out, by rw [List.length_append]; exact HOWN1.out, HB9.out⟩
        case measure => simp [intOf]; omega
      · rw [cutGo, if_neg hx] at he
        have e1 : ((x.toNat : Int) == (c : Int)) = false := beq_eq_false_iff_ne.2 (by omega)
        have HE := Lib.hid he
        clear he hx
        go_wp2
        go_roundw
        case rel => exact ⟨k + 1, a, acc, by omega, by omega, by omega, rfl, by go_num, HE.out, HOWN.out, HBW.out⟩
        case measure => simp [intOf]; omega
    · have hd : s.data.toList.drop k = [] := by rw [List.drop_eq_nil_iff]; simp; omega
      rw [hd, cutGo] at he
      have d2 := run_slice9l s a (by omega)
      generalize s.extract a s.size = p at *
      have HE := Lib.hid he
      clear he hd
      have hba : Below wr.heap.size wr (wr.alloc (.cells #[.string p] 9)) := (Below.refl _ _).alloc (Nat.le_refl _) _
      go_wp2_with (at_builtin; refine stp ?_)
      unfold Stp
      refine wpList_append_lies _ rfl _ _ 104 rfl w.heap.size 9 i1 _ 1 16 Tryz.underlying104 hi1 hy0 hy1 hy2 rfl (by omega) (.slice Au acc.length cu) acc.length (strCells acc) rfl (HOWN.out.alloc _) ⟨wr.heap.size, 0, none⟩ 1 1 [.string p] rfl rfl (news1 (by simp)) (by simp [Value.oneCell']) (by omega) (by simp only [maxLen]; omega) (by omega) (by simp; omega) _ rfl ?_
      intro gg cap w9 hown1 hgrow hat hlt9
      have hb9 : Below w.heap.size w w9 := (HBW.out.trans (hba.mono hsz)).grown hgrow (by have := hba.size; omega) (fun k hk => (ownBlk HOWN.out hk).1)
      have HOWN1 : Hid (w9.ownsRow w.heap.size 9 1 (.slice (some ⟨gg, 0, none⟩) (acc.length + 1) cap) (acc.length + 1) (strCells (acc ++ [p]))) := by
        rw [Hid, strCells, List.map_append]
        exact hown1
      have HB9 := Lib.hid hb9
      clear hown1 hgrow hat hlt9 hb9
      go_wp2
      go_ret
      have hlen : tot.length = acc.length + 1 := by rw [← HE.out, List.length_append]; rfl
      refine ⟨some ⟨gg, 0, none⟩, cap, ?_, ?_, ?_, HB9.out⟩
      · rw [hlen]
        rfl
      · rw [hlen]
        exact own_capT HOWN1.out
      · rw [← HE.out]
        exact rd_ownT HOWN1.out
end Go.Proofs.YtmcjnfghlpnghaaGreatDoor
