/- The steps of a label. -/
import Derived.Test.YtnnnpijepdjanaaGreatB12
namespace Go.Proofs.YtnnnpijepdjanaaGreat
open Go.RowKit

theorem Reverse_nil (w : World) : Calls Tryz.prog 64 #[.slice none 0 0] w fun e w' => (∃ v, e = .returned v) ∧ w = w' := by
  go_enter Tryz.func64, Tryz.ntmps64
  go_wp2
  go_loop [2, 3] (fun u2 u3 => u2 = .int .i64 0 ∧ u3 = .int .i64 (-1)) (fun _ _ => 0)
  case atStart => exact ⟨rfl, rfl⟩
  case round =>
    obtain ⟨rfl, rfl⟩ := hrel
    go_wp2
    go_end0
    exact ⟨⟨_, rfl⟩, rfl⟩
theorem info79 : (Tryz.prog.info? 79).map (fun i => (i.zero, i.size, i.bytes)) = some (some (.agg #[.int .i64 0, .bool false]), 2, 16) := by kernel_rfl
def lenOf : Value → Nat
  | .slice _ n _ => n
  | _ => 0
theorem news2 {X : World} {k : Nat} {x y : Value} (h0 : X.cell? ⟨k, 0, none⟩ = some x) (h1 : X.cell? ⟨k, 1, none⟩ = some y) : ∀ j u, [x, y][j]? = some u → X.cell? ((⟨k, 0, none⟩ : Addr).add j) = some u := by
  intro j u hu
  match j, hu with
  | 0, hu =>
    simp at hu
    subst hu
    exact h0
  | 1, hu =>
    simp at hu
    subst hu
    exact h1
  | j + 2, hu => simp at hu
theorem sCells_one (l : List (Int × Bool)) : ∀ u ∈ sCells l, u.oneCell' = true := by
  intro u hu
  simp only [sCells, List.mem_flatMap] at hu
  obtain ⟨e, _, he⟩ := hu
  simp at he
  rcases he with rfl | rfl <;> rfl
def SpRel (w0 : World) (N : Nat) (u0 u3 : Value) (wr : World) : Prop :=
  ∃ (u : Int) (d : Nat) (l : List (Int × Bool)), Lab wr u0 u d ∧ d + l.length = N ∧ wr.ownsRow w0.heap.size 79 2 u3 l.length (sCells l) ∧ Below w0.heap.size w0 wr
def StepsPost (w : World) (e : Ending) (w' : World) : Prop := ∃ A n c, e = .returned (.slice A n c) ∧ Below w.heap.size w w'
set_option maxRecDepth 100000 in
set_option maxHeartbeats 4000000 in
theorem steps_any (w : World) (p : Value) (u : Int) (n : Nat) (hn : n ≤ 1000) (h : Lab w p u n) : Calls Tryz.prog 38 #[p] w (StepsPost w) := by
  obtain ⟨i1, hi1, hy0, hy1, hy2⟩ := info_parts info79
  have HW := Lib.hid h
  clear h
  go_enter Tryz.func38, Tryz.ntmps38
  go_wp2
  go_loopw [0, 3] (fun u0 u3 wr => SpRel w n u0 u3 wr) (fun _ u3 _ => n - lenOf u3)
  case atStart => exact ⟨u, n, [], HW.out, by simp, ⟨rfl, .inl ⟨rfl, rfl⟩⟩, Below.refl _ _⟩
  case round =>
    clear HW
    obtain ⟨u, d, l, hlab, hd, hown, hb⟩ := hrel
    have HOWN := Lib.hid hown
    obtain ⟨Au, cu, rfl⟩ := rowForm hown
    have HBW := Lib.hid hb
    have hsz := hb.size
    clear hb hown
    cases hlab with
    | root hg =>
      rename_i g a x y z b
      have c6 := (cell_of_row _ _ 6 _ _ _ hg).trans (by rfl : _ = some (.pointer none))
      clear hg
      cases Au with
      | none =>
        have h0 : l.length = 0 ∧ cu = 0 := by
          rcases HOWN.out.2 with ⟨h9, h8⟩ | ⟨_, _, _, h9, _⟩
          · simp at h9
            exact ⟨h8, h9.2⟩
          · simp at h9
        rw [h0.1, h0.2]
        have R0 := fun W => Reverse_nil W
        go_wp2_with (go_at_call 64; refine (R0 _).mono ?_; rintro e w2 ⟨⟨v, rfl⟩, rfl⟩)
        go_ret
        exact ⟨_, _, _, rfl, HBW.out⟩
      | some ad =>
        obtain ⟨gg, rfl⟩ : ∃ gg, ad = ⟨gg, 0, none⟩ := by
          rcases HOWN.out.2 with ⟨h9, _⟩ | ⟨gg, _, _, h9, _⟩
          · simp at h9
          · simp only [Value.slice.injEq, Option.some.injEq] at h9
            exact ⟨gg, h9.1⟩
        have RV := Reverse_own wr w.heap.size gg cu l.length l (by omega) rfl HOWN.out
        generalize l.length = ln at *
        go_wp2_with (go_at_call 64; refine RV.mono ?_; rintro e w2 ⟨⟨v, rfl⟩, hb2⟩)
        go_ret
        exact ⟨_, _, _, rfl, HBW.out.trans hb2⟩
    | step hg hp =>
      rename_i g a x y z v b q d'
      have c6 := (cell_of_row _ _ 6 _ _ _ hg).trans (by rfl : _ = some q)
      have c1 := (cell_of_row _ _ 1 _ _ _ hg).trans (by rfl : _ = some (.int .i64 a))
      have c2 := (cell_of_row _ _ 2 _ _ _ hg).trans (by rfl : _ = some (.bool b))
      obtain ⟨g2, rfl, curg, _, _⟩ := hp.cell
      have HP := Lib.hid hp
      have hba : Below wr.heap.size wr (wr.alloc (.cells #[.int .i64 a, .bool b] 79)) := (Below.refl _ _).alloc (Nat.le_refl _) _
      have hln : l.length < n := by omega
      have HD := Lib.hid hd
      have c6' := kept hba c6
      have HG := Lib.hid hg
      clear hg hp hd
      go_wp2_with (at_builtin; refine stp ?_)
      unfold Stp
      refine wpList_append_lies _ rfl _ _ 54 rfl w.heap.size 79 i1 _ 2 16 Tryz.underlying54 hi1 hy0 hy1 hy2 rfl (by omega) (.slice Au l.length cu) l.length (sCells l) rfl (HOWN.out.alloc _) ⟨wr.heap.size, 0, none⟩ 1 1 [.int .i64 a, .bool b] rfl rfl (news2 (by simp) (by simp)) (by simp [Value.oneCell']) (by omega) (by simp only [maxLen]; omega) (by omega) (by simp; omega) _ rfl ?_
      intro gg cap w3 hown1 hgrow hat hlt9
      have hb9 : Below w.heap.size w w3 := (HBW.out.trans (hba.mono hsz)).grown hgrow (by have := hba.size; omega) (fun k hk => (ownBlk HOWN.out hk).1)
      have hkp : KpL (wr.alloc (.cells #[.int .i64 a, .bool b] 79)) w3 := kpL_grown hgrow (fun r e cur hr => by
        obtain ⟨_, hlr, cu', hcu⟩ := ownBlk HOWN.out e
        rw [heapq_alloc, if_neg (by omega), hcu] at hr
        simp at hr)
      have HL3 := Lib.hid ((HP.out.kp (kpL_below hba)).kp hkp)
      obtain ⟨g0, e0, curx, hcx, _⟩ := HL3.out.cell
      have HC6 : w3.cell? ⟨g, 6, none⟩ = some (.pointer (some ⟨g2, 0, none⟩)) := by
        have h9 := hkp _ _ (blk hba HG.out)
        rw [cell_of_row _ _ 6 _ _ _ h9]
        rfl
      have HOWN1 : Hid (w3.ownsRow w.heap.size 79 2 (.slice (some ⟨gg, 0, none⟩) (l.length + 1) cap) (l ++ [(a, b)]).length (sCells (l ++ [(a, b)]))) := by
        have h9 : sCells (l ++ [(a, b)]) = sCells l ++ [.int .i64 a, .bool b] := by simp [sCells]
        rw [Hid, h9, List.length_append]
        exact hown1
      have HB9 := Lib.hid hb9
      clear hown1 hgrow hat hlt9 hb9 hkp c6 c6' c1 c2
      go_wp2
      go_roundw
      case rel => exact ⟨_, d', l ++ [(a, b)], HL3.out, by have := HD.out; simp; omega, HOWN1.out, HB9.out⟩
      case measure => simp [lenOf]; omega
end Go.Proofs.YtnnnpijepdjanaaGreat
