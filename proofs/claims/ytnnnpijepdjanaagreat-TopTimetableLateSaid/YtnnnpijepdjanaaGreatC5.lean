/- split: the words of a line, with their places. -/
import Derived.Test.YtnnnpijepdjanaaGreatC4
namespace Go.Proofs.YtnnnpijepdjanaaGreat
open Go.RowKit

def blankB (x : UInt8) : Bool := x.toNat == 32 || x.toNat == 9
def splitGo (s : ByteArray) : List UInt8 → Nat → Option Nat → List (ByteArray × Nat)
  | [], _, none => []
  | [], k, some a => [(s.extract a k, a + 1)]
  | x :: xs, k, none => if blankB x then splitGo s xs (k + 1) none else splitGo s xs (k + 1) (some k)
  | x :: xs, k, some a => if blankB x then (s.extract a k, a + 1) :: splitGo s xs (k + 1) none else splitGo s xs (k + 1) (some a)
/-- the words of a line -/
def splitF (s : ByteArray) : List (ByteArray × Nat) := splitGo s s.data.toList 0 none
def wdCells (l : List (ByteArray × Nat)) : List Value := l.flatMap fun e => [.string e.1, .int .i64 (e.2 : Int)]
theorem info116 : (Tryz.prog.info? 116).map (fun i => (i.zero, i.size, i.bytes)) = some (some (.agg #[.string ⟨#[]⟩, .int .i64 0]), 2, 24) := by kernel_rfl
theorem info113 : Tryz.prog.underlying 113 = some (.slice 116) := by kernel_rfl
def SpRel1 (w0 : World) (s : ByteArray) (tot : List (ByteArray × Nat)) (u3 u4 : Value) (wr : World) : Prop :=
  ∃ (k : Nat) (acc : List (ByteArray × Nat)), k ≤ s.size ∧ acc.length ≤ k ∧ u4 = .int .i64 k ∧ acc ++ splitGo s (s.data.toList.drop k) k none = tot ∧ wr.ownsRow w0.heap.size 116 2 u3 acc.length (wdCells acc) ∧ Below w0.heap.size w0 wr
def WordsPost (w : World) (l : List (ByteArray × Nat)) (n : Nat) (e : Ending) (w' : World) : Prop :=
  ∃ A c, e = .returned (.slice A n c) ∧ w'.ownsRow w.heap.size 116 2 (.slice A n c) n (wdCells l) ∧ Below w.heap.size w w'
set_option maxRecDepth 100000 in
set_option maxHeartbeats 8000000 in
theorem split_any (s : ByteArray) (hs : s.size ≤ 1000000) (w : World) : Calls Tryz.prog 58 #[.string s] w (WordsPost w (splitF s) (splitF s).length) := by
  obtain ⟨i1, hi1, hy0, hy1, hy2⟩ := info_parts info116
  obtain ⟨tot, htot⟩ : ∃ t, splitF s = t := ⟨_, rfl⟩
  rw [htot]
  have HT := Lib.hid htot
  clear htot
  go_enter Tryz.func58, Tryz.ntmps58
  go_wp2
  go_loopw [3, 4] (fun u3 u4 wr => SpRel1 w s tot u3 u4 wr) (fun _ u4 _ => s.size - (intOf u4).toNat)
  case atStart => exact ⟨0, [], Nat.zero_le _, Nat.le_refl _, rfl, HT.out, ⟨rfl, .inl ⟨rfl, rfl⟩⟩, Below.refl _ _⟩
  case round =>
    clear HT
    obtain ⟨k, acc, hk, hal, rfl, he, hown, hb⟩ := hrel
    have HOWN := Lib.hid hown
    obtain ⟨Au, cu, rfl⟩ := rowForm hown
    have HBW := Lib.hid hb
    have hsz := hb.size
    clear hb hown
    by_cases hlt : k < s.size
    · have hkl : k < s.data.toList.length := Nat.lt_of_lt_of_eq hlt (by simp)
      have d1 := run_index9 s k hlt
      have hlti : (k : Int) < (s.size : Int) := by omega
      rw [dropB hkl, splitGo] at he
      have HDR := Lib.hid (dropB hkl)
      obtain ⟨x, hx⟩ : ∃ x, s.data.toList.getD k 0 = x := ⟨_, rfl⟩
      rw [hx] at d1 he HDR
      clear hkl hx
      obtain ⟨b1, q1⟩ : ∃ b, ((x.toNat : Int) == 32) = b := ⟨_, rfl⟩
      obtain ⟨b2, q2⟩ : ∃ b, ((x.toNat : Int) == 9) = b := ⟨_, rfl⟩
      have hbl : blankB x = (b1 || b2) := by
        rw [← q1, ← q2, blankB]
        rw [show ((x.toNat : Int) == 32) = (x.toNat == 32) from by rw [Bool.eq_iff_iff]; simp; omega, show ((x.toNat : Int) == 9) = (x.toNat == 9) from by rw [Bool.eq_iff_iff]; simp; omega]
      cases hbb : blankB x with
      | true =>
        rw [hbb, if_pos rfl] at he
        rw [hbb] at hbl
        have HE := Lib.hid he
        clear he hbb HDR
        have hb12 : b1 = true ∨ (b1 = false ∧ b2 = true) := by
          cases b1
          · exact .inr ⟨rfl, by simpa using hbl.symm⟩
          · exact .inl rfl
        clear hbl
        rcases hb12 with rfl | ⟨rfl, rfl⟩
        · go_wp2
          go_roundw
          case rel => exact ⟨k + 1, acc, by omega, by omega, by go_num, HE.out, HOWN.out, HBW.out⟩
          case measure => simp [intOf]; omega
        · go_wp2
          go_roundw
          case rel => exact ⟨k + 1, acc, by omega, by omega, by go_num, HE.out, HOWN.out, HBW.out⟩
          case measure => simp [intOf]; omega
      | false =>
        rw [hbb, if_neg (by simp)] at he
        rw [hbb] at hbl
        have HX := Lib.hid hbb
        have HE : Hid (acc ++ splitGo s (s.data.toList.drop k) k (some k) = tot ∧ ∃ x xs, s.data.toList.drop k = x :: xs ∧ blankB x = false) := by
          refine ⟨?_, x, _, HDR.out, hbb⟩
          rw [HDR.out, splitGo, hbb, if_neg (by simp)]
          exact he
        clear he hbb HDR
        obtain ⟨rfl, rfl⟩ : b1 = false ∧ b2 = false := by
          cases b1
          · cases b2
            · exact ⟨rfl, rfl⟩
            · simp at hbl
          · simp at hbl
        clear hbl
        go_wp2
        go_loop [4] (fun u4 => ∃ j : Nat, k ≤ j ∧ j ≤ s.size ∧ u4 = .int .i64 j ∧ acc ++ splitGo s (s.data.toList.drop j) j (some k) = tot ∧ (j = k → ∃ x xs, s.data.toList.drop j = x :: xs ∧ blankB x = false)) (fun u4 => s.size - (intOf u4).toNat)
        case atStart => exact ⟨k, Nat.le_refl _, hk, rfl, HE.out.1, fun _ => HE.out.2⟩
        case round =>
          clear HE d1 q1 q2 hlti HX
          obtain ⟨j, hkj, hj, rfl, he, hne⟩ := hrel
          by_cases hlt2 : j < s.size
          · have hkl : j < s.data.toList.length := Nat.lt_of_lt_of_eq hlt2 (by simp)
            have d1 := run_index9 s j hlt2
            have hlti : (j : Int) < (s.size : Int) := by omega
            rw [dropB hkl, splitGo] at he
            have HDR := Lib.hid (dropB hkl)
            obtain ⟨y, hy⟩ : ∃ x, s.data.toList.getD j 0 = x := ⟨_, rfl⟩
            rw [hy] at d1 he HDR
            clear hkl hy
            cases hbb : blankB y with
            | true =>
              rw [hbb, if_pos rfl] at he
              have hjk : k < j := by
                rcases Nat.lt_or_ge k j with h9 | h9
                · exact h9
                · obtain ⟨x1, xs, h8, h7⟩ := hne (by omega)
                  rw [HDR.out] at h8
                  cases h8
                  rw [hbb] at h7
                  simp at h7
              have HN : Hid (splitGo s (s.data.toList.drop j) j none = splitGo s (s.data.toList.drop (j + 1)) (j + 1) none) := by
                rw [Hid, HDR.out, splitGo, hbb, if_pos rfl]
              clear HDR hne
              have d2 := run_slice9 s k j hkj hj
              generalize s.extract k j = p at *
              have HE : Hid ((acc ++ [(p, k + 1)]) ++ splitGo s (s.data.toList.drop j) j none = tot) := by
                rw [Hid, HN.out, ← he, List.append_assoc]
                rfl
              clear he HN
              have hbq : y.toNat = 32 ∨ (y.toNat ≠ 32 ∧ y.toNat = 9) := by
                rw [blankB] at hbb
                simp at hbb
                omega
              clear hbb
              have hba : Below wr.heap.size wr (wr.alloc (.cells #[.string p, .int .i64 ((k + 1 : Nat) : Int)] 116)) := (Below.refl _ _).alloc (Nat.le_refl _) _
              rcases hbq with hq | ⟨hq, hq2⟩
              · have q1 : ((y.toNat : Int) != 32) = false := by rw [hq]; rfl
                clear hq
                go_wp2_with (at_builtin; refine stp ?_)
                unfold Stp
                refine wpList_append_lies _ rfl _ _ 113 rfl w.heap.size 116 i1 _ 2 24 info113 hi1 hy0 hy1 hy2 rfl (by omega) (.slice Au acc.length cu) acc.length (wdCells acc) rfl (HOWN.out.alloc _) ⟨wr.heap.size, 0, none⟩ 1 1 [.string p, .int .i64 ((k + 1 : Nat) : Int)] rfl rfl (news2 (by simp) (by simp)) (by simp [Value.oneCell']) (by omega) (by simp only [maxLen]; omega) (by omega) (by simp; omega) _ rfl ?_
                intro gg cap w9 hown1 hgrow hat hlt9
                have hb9 : Below w.heap.size w w9 := (HBW.out.trans (hba.mono hsz)).grown hgrow (by have := hba.size; omega) (fun k hk => (ownBlk HOWN.out hk).1)
                have HOWN1 : Hid (w9.ownsRow w.heap.size 116 2 (.slice (some ⟨gg, 0, none⟩) (acc.length + 1) cap) (acc.length + 1) (wdCells (acc ++ [(p, k + 1)]))) := by
                  rw [Hid, wdCells, List.flatMap_append]
                  exact hown1
                have HB9 := Lib.hid hb9
                clear hown1 hgrow hat hlt9 hb9
                go_wp2
                go_roundw
                case rel => exact ⟨j, acc ++ [(p, k + 1)], by omega, by rw [List.length_append]; simp; omega, by go_num, HE.out, by rw [List.length_append]; exact HOWN1.out, HB9.out⟩
                case measure => simp [intOf]; omega
              · have q1 : ((y.toNat : Int) != 32) = true := bne_iff_ne.2 (by omega)
                have q2 : ((y.toNat : Int) != 9) = false := by rw [hq2]; rfl
                clear hq hq2
                go_wp2_with (at_builtin; refine stp ?_)
                unfold Stp
                refine wpList_append_lies _ rfl _ _ 113 rfl w.heap.size 116 i1 _ 2 24 info113 hi1 hy0 hy1 hy2 rfl (by omega) (.slice Au acc.length cu) acc.length (wdCells acc) rfl (HOWN.out.alloc _) ⟨wr.heap.size, 0, none⟩ 1 1 [.string p, .int .i64 ((k + 1 : Nat) : Int)] rfl rfl (news2 (by simp) (by simp)) (by simp [Value.oneCell']) (by omega) (by simp only [maxLen]; omega) (by omega) (by simp; omega) _ rfl ?_
                intro gg cap w9 hown1 hgrow hat hlt9
                have hb9 : Below w.heap.size w w9 := (HBW.out.trans (hba.mono hsz)).grown hgrow (by have := hba.size; omega) (fun k hk => (ownBlk HOWN.out hk).1)
                have HOWN1 : Hid (w9.ownsRow w.heap.size 116 2 (.slice (some ⟨gg, 0, none⟩) (acc.length + 1) cap) (acc.length + 1) (wdCells (acc ++ [(p, k + 1)]))) := by
                  rw [Hid, wdCells, List.flatMap_append]
                  exact hown1
                have HB9 := Lib.hid hb9
                clear hown1 hgrow hat hlt9 hb9
                go_wp2
                go_roundw
                case rel => exact ⟨j, acc ++ [(p, k + 1)], by omega, by rw [List.length_append]; simp; omega, by go_num, HE.out, by rw [List.length_append]; exact HOWN1.out, HB9.out⟩
                case measure => simp [intOf]; omega
            | false =>
              rw [hbb, if_neg (by simp)] at he
              have HE := Lib.hid he
              clear he HDR hne
              have hbq : y.toNat ≠ 32 ∧ y.toNat ≠ 9 := by
                rw [blankB] at hbb
                simpa using hbb
              have q1 : ((y.toNat : Int) != 32) = true := bne_iff_ne.2 (by omega)
              have q2 : ((y.toNat : Int) != 9) = true := bne_iff_ne.2 (by omega)
              clear hbb hbq
              go_wp2
              go_round
              case rel => exact ⟨j + 1, by omega, by omega, by go_num, HE.out, fun h => by omega⟩
              case measure => simp [intOf]; omega
          · obtain rfl : j = s.size := by omega
            have hlti : ¬ (s.size : Int) < (s.size : Int) := by omega
            have hd : s.data.toList.drop s.size = [] := by rw [List.drop_eq_nil_iff]; simp
            have hjk : k < s.size := hlt
            rw [hd, splitGo] at he
            have d2 := run_slice9 s k s.size hkj hj
            generalize s.extract k s.size = p at *
            have HE : Hid ((acc ++ [(p, k + 1)]) ++ splitGo s (s.data.toList.drop s.size) s.size none = tot) := by
              rw [Hid, hd, splitGo, List.append_nil]
              exact he
            clear he hd hne
            have hba : Below wr.heap.size wr (wr.alloc (.cells #[.string p, .int .i64 ((k + 1 : Nat) : Int)] 116)) := (Below.refl _ _).alloc (Nat.le_refl _) _
            go_wp2_with (at_builtin; refine stp ?_)
            unfold Stp
            refine wpList_append_lies _ rfl _ _ 113 rfl w.heap.size 116 i1 _ 2 24 info113 hi1 hy0 hy1 hy2 rfl (by omega) (.slice Au acc.length cu) acc.length (wdCells acc) rfl (HOWN.out.alloc _) ⟨wr.heap.size, 0, none⟩ 1 1 [.string p, .int .i64 ((k + 1 : Nat) : Int)] rfl rfl (news2 (by simp) (by simp)) (by simp [Value.oneCell']) (by omega) (by simp only [maxLen]; omega) (by omega) (by simp; omega) _ rfl ?_
            intro gg cap w9 hown1 hgrow hat hlt9
            have hb9 : Below w.heap.size w w9 := (HBW.out.trans (hba.mono hsz)).grown hgrow (by have := hba.size; omega) (fun k hk => (ownBlk HOWN.out hk).1)
            have HOWN1 : Hid (w9.ownsRow w.heap.size 116 2 (.slice (some ⟨gg, 0, none⟩) (acc.length + 1) cap) (acc.length + 1) (wdCells (acc ++ [(p, k + 1)]))) := by
              rw [Hid, wdCells, List.flatMap_append]
              exact hown1
            have HB9 := Lib.hid hb9
            clear hown1 hgrow hat hlt9 hb9
            go_wp2
            go_roundw
            case rel => exact ⟨s.size, acc ++ [(p, k + 1)], by omega, by rw [List.length_append]; simp; omega, by go_num, HE.out, by rw [List.length_append]; exact HOWN1.out, HB9.out⟩
            case measure => simp [intOf]; omega
    · have hd : s.data.toList.drop k = [] := by rw [List.drop_eq_nil_iff]; simp; omega
      rw [hd, splitGo, List.append_nil] at he
      subst he
      clear hd
      have hlti : ¬ (k : Int) < (s.size : Int) := by omega
      go_wp2
      go_ret
      exact ⟨_, _, rfl, HOWN.out, HBW.out⟩
end Go.Proofs.YtnnnpijepdjanaaGreat
