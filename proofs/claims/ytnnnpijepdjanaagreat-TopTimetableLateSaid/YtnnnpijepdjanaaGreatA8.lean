/- Copies: numbers, texts, a net. -/
import Derived.Test.YtnnnpijepdjanaaGreatA7
namespace Go.Proofs.YtnnnpijepdjanaaGreat
open Go.RowKit

theorem keepS {X w1 : World} {row : Option Nat} (hg : X.grownBy w1 row) {a : Addr} {v : Value} (h : X.cell? a = some v) (hne : some a.block ≠ row) : w1.cell? a = some v := by
  rw [hg.cell_far a ?_ hne]
  · exact h
  · exact lt_of_cell h

theorem info3 : (Tryz.prog.info? 3).map (fun i => (i.zero, i.size, i.bytes)) = some (some (.int .i64 0), 1, 8) := by kernel_rfl
theorem info9 : (Tryz.prog.info? 9).map (fun i => (i.zero, i.size, i.bytes)) = some (some (.string ⟨#[]⟩), 1, 16) := by kernel_rfl
theorem info43 : (Tryz.prog.info? 43).map (fun i => (i.zero, i.size, i.bytes)) = some (some (.agg #[.int .i64 0, .int .i64 0, .int .i64 0, .int .i64 0, .int .i64 0, .int .i64 0]), 6, 48) := by kernel_rfl
theorem intCells_len (l : List Int) : (intCells l).length = l.length := by simp [intCells]
theorem intCells_one (l : List Int) : ∀ u ∈ intCells l, u.oneCell' = true := by
  intro u hu
  simp only [intCells, List.mem_map] at hu
  obtain ⟨n, _, rfl⟩ := hu
  rfl
theorem strCells_len (l : List ByteArray) : (strCells l).length = l.length := by simp [strCells]
theorem strCells_one (l : List ByteArray) : ∀ u ∈ strCells l, u.oneCell' = true := by
  intro u hu
  simp only [strCells, List.mem_map] at hu
  obtain ⟨n, _, rfl⟩ := hu
  rfl
theorem actCells_one (l : List Act) : ∀ u ∈ actCells l, u.oneCell' = true := by
  intro u hu
  simp only [actCells, List.mem_flatMap] at hu
  obtain ⟨e, _, he⟩ := hu
  simp [actVals] at he
  rcases he with rfl | rfl | rfl | rfl | rfl | rfl <;> rfl
def IntsPost (w : World) (l : List Int) (n : Nat) (e : Ending) (w' : World) : Prop :=
  ∃ A c, e = .returned (.slice A n c) ∧ Rd w' w'.heap.size A (intCells l) ∧ Below w.heap.size w w'
def TextsPost (w : World) (l : List ByteArray) (n : Nat) (e : Ending) (w' : World) : Prop :=
  ∃ A c, e = .returned (.slice A n c) ∧ n ≤ c ∧ Rd w' w'.heap.size A (strCells l) ∧ Below w.heap.size w w'
def NetCopied (w : World) (pp : List ByteArray) (ws : List Act) (np nw : Nat) (e : Ending) (w' : World) : Prop :=
  ∃ A1 c1 A2 c2, e = .returned (.agg #[.slice A1 np c1, .slice A2 nw c2]) ∧ np ≤ c1 ∧ Rd w' w'.heap.size A1 (strCells pp) ∧ Rd w' w'.heap.size A2 (actCells ws) ∧ Below w.heap.size w w'

set_option maxHeartbeats 1000000 in
theorem CopyInts_any (w : World) (B : Nat) (A : Option Addr) (n c : Nat) (l : List Int) (hl : l.length = n) (hn : n ≤ 1000000) (h : Rd w B A (intCells l)) (hB : B ≤ w.heap.size) :
    Calls Tryz.prog 11 #[.slice A n c] w (IntsPost w l n) := by
  obtain ⟨i1, hi1, hy0, hy1, hy2⟩ := info_parts info3
  have HL := Lib.hid hl
  have h' := h.below (((Below.refl _ _).alloc (Nat.le_refl _) (.cells #[] 3) : Below w.heap.size w (w.alloc (.cells #[] 3))).mono hB)
  have hb0 : Below w.heap.size w (w.alloc (.cells #[] 3)) := (Below.refl _ _).alloc (Nat.le_refl _) _
  clear hl
  go_enter Tryz.func11, Tryz.ntmps11
  go_wp2_with (at_builtin; refine stp ?_)
  unfold Stp
  refine wpList_append_copy _ rfl _ _ 26 rfl w.heap.size 3 i1 _ 1 8 Tryz.underlying26 hi1 hy0 hy1 hy2 rfl (by omega) w.heap.size rfl (by rw [heapq_alloc, if_pos rfl]) (Nat.le_refl _) B A n c (intCells l) rfl (by rw [intCells_len, HL.out, Nat.mul_one]) h' (intCells_one l) (by simp only [maxLen]; omega) (by omega) (by simp) ?_
  intro g cap w1 hown hgrow _
  have hb1 : Below w.heap.size w w1 := hb0.grown hgrow (by simp) (fun k hk => by rw [← Option.some.inj hk]; exact Nat.le_refl _)
  have HR := Lib.hid (Rd_of_own hown)
  have HB := Lib.hid hb1
  clear hown hgrow hb0 hb1 h h'
  go_wp2
  go_ret
  exact ⟨_, _, rfl, HR.out, HB.out⟩

set_option maxHeartbeats 1000000 in
theorem CopyTexts_any (w : World) (B : Nat) (A : Option Addr) (n c : Nat) (l : List ByteArray) (hl : l.length = n) (hn : n ≤ 1000000) (h : Rd w B A (strCells l)) (hB : B ≤ w.heap.size) :
    Calls Tryz.prog 13 #[.slice A n c] w (TextsPost w l n) := by
  obtain ⟨i1, hi1, hy0, hy1, hy2⟩ := info_parts info9
  have HL := Lib.hid hl
  have h' := h.below (((Below.refl _ _).alloc (Nat.le_refl _) (.cells #[] 9) : Below w.heap.size w (w.alloc (.cells #[] 9))).mono hB)
  have hb0 : Below w.heap.size w (w.alloc (.cells #[] 9)) := (Below.refl _ _).alloc (Nat.le_refl _) _
  clear hl
  go_enter Tryz.func13, Tryz.ntmps13
  go_wp2_with (at_builtin; refine stp ?_)
  unfold Stp
  refine wpList_append_copy _ rfl _ _ 22 rfl w.heap.size 9 i1 _ 1 16 Tryz.underlying22 hi1 hy0 hy1 hy2 rfl (by omega) w.heap.size rfl (by rw [heapq_alloc, if_pos rfl]) (Nat.le_refl _) B A n c (strCells l) rfl (by rw [strCells_len, HL.out, Nat.mul_one]) h' (strCells_one l) (by simp only [maxLen]; omega) (by omega) (by simp) ?_
  intro g cap w1 hown hgrow _
  have hb1 : Below w.heap.size w w1 := hb0.grown hgrow (by simp) (fun k hk => by rw [← Option.some.inj hk]; exact Nat.le_refl _)
  have HR := Lib.hid (Rd_of_own hown)
  have hcap := own_cap hown
  have HB := Lib.hid hb1
  clear hown hgrow hb0 hb1 h h'
  go_wp2
  go_ret
  exact ⟨_, _, rfl, hcap, HR.out, HB.out⟩

/-- what is read elsewhere while a block of another kind is written -/
theorem rd_set2 {W : World} {x B : Nat} {A : Option Addr} {xs : List Value} {v0 v1 : Value} (h : Rd W B A xs ∧ B ≤ W.heap.size ∧ ∀ (k : Nat) (u : Value), xs[k]? = some u → ∀ b off, A = some ⟨b, off, none⟩ → b ≠ x) :
    Rd ((W.setCell ⟨x, 0, none⟩ v0).setCell ⟨x, 1, none⟩ v1) ((W.setCell ⟨x, 0, none⟩ v0).setCell ⟨x, 1, none⟩ v1).heap.size A xs := fun k u hk => by
  obtain ⟨b, off, hA, hb, hc⟩ := h.1 k u hk
  have hne := h.2.2 k u hk b off hA
  have hB := h.2.1
  refine ⟨b, off, hA, by simp; omega, ?_⟩
  rw [World.cell?_setCell_other _ _ _ _ (fun he => hne (by simpa using (congrArg Addr.block he).symm)), World.cell?_setCell_other _ _ _ _ (fun he => hne (by simpa using (congrArg Addr.block he).symm))]
  exact hc

theorem rd_kept {w w' : World} {g0 B : Nat} {A : Option Addr} {xs : List Value} (h : Rd w B A xs) (hg : w.grownBy w' (some g0)) (hg0 : ∀ (k : Nat) (u : Value), xs[k]? = some u → ∀ b off, A = some ⟨b, off, none⟩ → b ≠ g0) : Rd w' B A xs := fun k u hk => by
  obtain ⟨b, off, hA, hb, hc⟩ := h k u hk
  refine ⟨b, off, hA, hb, keepS hg hc ?_⟩
  intro he
  exact hg0 k u hk b off hA (Option.some.inj he)

/-- texts lie in no block of other things -/
theorem rd_ne {w : World} {B g t : Nat} {A : Option Addr} {l : List ByteArray} {cs : Array Value} (h : Rd w B A (strCells l)) (hg : w.heap[g]? = some (.cells cs t (0, 0))) (hcs : ∀ (i : Nat) (n : ByteArray), cs[i]? ≠ some (Value.string n)) : ∀ (k : Nat) (u : Value), (strCells l)[k]? = some u → ∀ b off, A = some ⟨b, off, none⟩ → b ≠ g := by
  intro k u hk b off hA he
  obtain ⟨b', off', hA', _, hc⟩ := h k u hk
  rw [hA] at hA'
  simp only [Option.some.injEq, Addr.mk.injEq, and_true] at hA'
  obtain ⟨rfl, rfl⟩ := hA'
  subst he
  rw [cell_of_row w b _ _ _ _ hg] at hc
  obtain ⟨m, _, rfl⟩ : ∃ m, m ∈ l ∧ Value.string m = u := by
    have := List.mem_of_getElem? hk
    simpa [strCells] using this
  exact hcs _ _ hc

set_option maxRecDepth 100000 in
set_option maxHeartbeats 4000000 in
theorem refCopy_any (w : World) (B : Nat) (Ap Aw : Option Addr) (np cp nw cw : Nat) (pp : List ByteArray) (ws : List Act) (hl : pp.length = np) (hlw : ws.length = nw) (hn : np ≤ 1000000) (hm : nw ≤ 1000000) (hp : Rd w B Ap (strCells pp)) (hw : Rd w B Aw (actCells ws)) (hB : B ≤ w.heap.size) :
    Calls Tryz.prog 10 #[.agg #[.slice Ap np cp, .slice Aw nw cw]] w (NetCopied w pp ws np nw) := by
  obtain ⟨i1, hi1, hy0, hy1, hy2⟩ := info_parts info43
  have hb0 : Below w.heap.size w ((w.alloc (.cells #[.slice Ap np cp, .slice Aw nw cw] 25)).alloc (.cells #[.slice none 0 0, .slice none 0 0] 25)) := ((Below.refl _ _).alloc (Nat.le_refl _) _).alloc (by simp) _
  have k0 : ((w.alloc (.cells #[.slice Ap np cp, .slice Aw nw cw] 25)).alloc (.cells #[.slice none 0 0, .slice none 0 0] 25)).heap[w.heap.size]? = some (.cells #[.slice Ap np cp, .slice Aw nw cw] 25 (0, 0)) := by
    rw [heapq_alloc, if_neg (by simp), heapq_alloc, if_pos rfl]
  have k1 : ((w.alloc (.cells #[.slice Ap np cp, .slice Aw nw cw] 25)).alloc (.cells #[.slice none 0 0, .slice none 0 0] 25)).heap[w.heap.size + 1]? = some (.cells #[.slice none 0 0, .slice none 0 0] 25 (0, 0)) := by
    rw [heapq_alloc, if_pos (by simp)]
  have hp0 := hp.below (hb0.mono hB)
  have hw0 := hw.below (hb0.mono hB)
  have hs1 : w.heap.size ≤ ((w.alloc (.cells #[.slice Ap np cp, .slice Aw nw cw] 25)).alloc (.cells #[.slice none 0 0, .slice none 0 0] 25)).heap.size := by simp; omega
  have hx1 : w.heap.size + 1 < ((w.alloc (.cells #[.slice Ap np cp, .slice Aw nw cw] 25)).alloc (.cells #[.slice none 0 0, .slice none 0 0] 25)).heap.size := by simp
  have HB := Lib.hid hb0
  have HL := Lib.hid hl
  have HLW := Lib.hid hlw
  have K1 := Lib.hid k1
  have a0 : ((w.alloc (.cells #[.slice Ap np cp, .slice Aw nw cw] 25)).alloc (.cells #[.slice none 0 0, .slice none 0 0] 25)).cell? ⟨w.heap.size, 0, none⟩ = some (.slice Ap np cp) := (cell_of_row ((w.alloc (.cells #[.slice Ap np cp, .slice Aw nw cw] 25)).alloc (.cells #[.slice none 0 0, .slice none 0 0] 25)) w.heap.size 0 _ _ _ k0).trans rfl
  have a1 : ((w.alloc (.cells #[.slice Ap np cp, .slice Aw nw cw] 25)).alloc (.cells #[.slice none 0 0, .slice none 0 0] 25)).cell? ⟨w.heap.size, 1, none⟩ = some (.slice Aw nw cw) := (cell_of_row ((w.alloc (.cells #[.slice Ap np cp, .slice Aw nw cw] 25)).alloc (.cells #[.slice none 0 0, .slice none 0 0] 25)) w.heap.size 1 _ _ _ k0).trans rfl
  have HX := Lib.hid hx1
  clear hl hlw hp hw hb0 k0 k1 hx1
  go_enter Tryz.func10, Tryz.ntmps10
  go_upto_region 1 with (fail)
  generalize ((w.alloc (.cells #[.slice Ap np cp, .slice Aw nw cw] 25)).alloc (.cells #[.slice none 0 0, .slice none 0 0] 25)) = W0 at *
  have hBW : B ≤ W0.heap.size := Nat.le_trans hB hs1
  generalize hx : w.heap.size = x at *
  have HXX := Lib.hid hx
  clear hx
  have x0 := fun y : Xt W0 => y.cell a0
  have x1 := fun y : Xt W0 => y.cell a1
  refine wp_region_eager [7, 8] (fun w' => ∃ y : Xt W0, w' = y.1) (by kernel_rfl) ⟨⟨W0.drew, (Below.refl _ _).drew⟩, rfl⟩ ?_
  refine wpE_reads [0, 1, 4, 5] 5 rfl (by kernel_rfl) ?_
  simp only [opsAt_nil, opsAt_cons, consOpt_some, List.getElem?_toArray, List.getElem?_cons_zero, List.getElem?_cons_succ]
  repeat (go_big_quiet_step (fail))
  refine wpQuiet_nil ?_
  have hbd : Below W0.heap.size W0 W0.drew := (Below.refl _ _).drew
  show wpE _ _ _ _ _ _ _ _ _ W0.drew
  generalize W0.drew = wd at *
  clear x0 x1 a0 a1
  refine wpE_two (i := 2) (k := 3) rfl (by kernel_rfl) rfl rfl ?_ ?_
  · unfold wpMid
    simp only [opsAt_nil, opsAt_cons, consOpt_some, List.getElem?_toArray, List.getElem?_cons_zero, List.getElem?_cons_succ]
    go_wp2_with (go_at_call 13; refine (CopyTexts_any wd B Ap np cp pp HL.out hn (hp0.below (hbd.mono hBW)) (Nat.le_trans hBW hbd.size)).mono ?_; rintro e w2 ⟨AR, cR, rfl, hcap, hR, hb2⟩)
    have hb02 := hbd.trans (hb2.mono hbd.size)
    refine onlyNormal_mk ⟨⟨⟨_, hb02⟩, rfl⟩, ?_⟩
    refine wpE_one (i := 3) rfl (by kernel_rfl) rfl ?_
    unfold wpMid
    simp only [opsAt_nil, opsAt_cons, consOpt_some, List.getElem?_toArray, List.getElem?_cons_zero, List.getElem?_cons_succ]
    go_wp2
    have hb03 : Below W0.heap.size W0 (w2.alloc (.cells #[] 43)) := hb02.alloc hb02.size _
    have gq : (w2.alloc (.cells #[] 43)).heap[w2.heap.size]? = some (.cells #[] 43 (0, 0)) := by rw [heapq_alloc, if_pos rfl]
    have hR3 := (hR.below ((Below.refl _ _).alloc (Nat.le_refl _) (.cells #[] 43))).mono (show w2.heap.size ≤ (w2.alloc (.cells #[] 43)).heap.size by simp)
    have hg : W0.heap.size ≤ w2.heap.size := hb02.size
    clear hR
    generalize w2.alloc (.cells #[] 43) = w3 at *
    generalize w2.heap.size = g at *
    refine onlyNormal_mk ⟨⟨⟨_, hb03⟩, rfl⟩, ?_⟩
    refine wpE_one (i := 6) rfl (by kernel_rfl) rfl ?_
    unfold wpMid
    simp only [opsAt_nil, opsAt_cons, consOpt_some, List.getElem?_toArray, List.getElem?_cons_zero, List.getElem?_cons_succ]
    have hrd := hw0.below (hb03.mono hBW)
    have hgl := lt_of_block gq
    have n3 := rd_ne hR3 gq (fun i n h => by simp at h)
    refine wpList_append_copy w3 rfl _ _ 23 rfl g 43 i1 _ 6 48 Tryz.underlying23 hi1 hy0 hy1 hy2 rfl (by omega) g rfl gq (Nat.le_refl _) B Aw nw cw (actCells ws) rfl (by rw [actCells_len, HLW.out]) hrd (actCells_one ws) (by simp only [maxLen]; omega) (by omega) (Nat.le_of_lt hgl) ?_
    intro G cG w4 hown hgrow _
    have hb4 : Below W0.heap.size W0 w4 := hb03.grown hgrow hb03.size (fun k hk => by rw [← Option.some.inj hk]; exact hg)
    have hG := ownBlk hown rfl
    have hR4 := rd_kept hR3 hgrow n3
    have hk4 := (hb4.block (x + 1) HX.out).trans K1.out
    have n4 := rd_ne hR4 hk4 (fun i n h => by rcases i with _ | _ | i <;> simp at h)
    have s4 := hgrow.size
    have RPP : Rd w4 w3.heap.size AR (strCells pp) ∧ w3.heap.size ≤ w4.heap.size ∧ _ := ⟨hR4, s4, n4⟩
    have RWW : Rd w4 w4.heap.size (some ⟨G, 0, none⟩) (actCells ws) ∧ w4.heap.size ≤ w4.heap.size ∧ ∀ (k : Nat) (u : Value), (actCells ws)[k]? = some u → ∀ b off, some (⟨G, 0, none⟩ : Addr) = some ⟨b, off, none⟩ → b ≠ x + 1 :=
      ⟨Rd_of_own hown, Nat.le_refl _, fun k u _ b off he => by
        simp only [Option.some.injEq, Addr.mk.injEq, and_true] at he
        have := HX.out
        have := hG.1
        omega⟩
    clear hrd n3 hown hgrow hR4 hk4 n4
    refine onlyNormal_mk ⟨⟨⟨_, hb4⟩, rfl⟩, ?_⟩
    refine wpE_tail rfl (by kernel_rfl) ?_
    simp only [opsAt_nil, opsAt_cons, consOpt_some, List.getElem?_toArray, List.getElem?_cons_zero, List.getElem?_cons_succ]
    have hk := (hb4.block (x + 1) HX.out).trans K1.out
    have t0 := cell_of_row w4 (x + 1) 0 _ _ _ hk
    have t1 := cell_of_row w4 (x + 1) 1 _ _ _ hk
    simp at t0 t1
    have q0 := frozen_of_row w4 (x + 1) 0 _ _ hk
    have q1 := frozen_of_row w4 (x + 1) 1 _ _ hk
    have RP := Lib.hid RPP
    have RW := Lib.hid RWW
    have HBE := Lib.hid (HB.out.trans (hb4.mono hs1))
    clear hk
    go_wp2
    refine onlyNormal_mk ?_
    go_wp2
    refine bodyPost_ret (v := .agg #[.slice AR np cR, .slice (some ⟨G, 0, none⟩) nw cG]) (by simp [results, Tryz.results10, go_sem, t0, t1]) rfl ⟨AR, cR, _, cG, rfl, hcap, ?_, ?_, ?_⟩
    · exact rd_set2 RP.out
    · exact rd_set2 RW.out
    · rw [HXX.out]
      exact (HBE.out.setCell (p := ⟨x + 1, 0, none⟩) (Nat.le_add_right x 1) _).setCell (p := ⟨x + 1, 1, none⟩) (Nat.le_add_right x 1) _
  · unfold wpMid
    simp only [opsAt_nil, opsAt_cons, consOpt_some, List.getElem?_toArray, List.getElem?_cons_zero, List.getElem?_cons_succ]
    go_wp2
    have hb02 : Below W0.heap.size W0 (wd.alloc (.cells #[] 43)) := hbd.alloc hbd.size _
    have gq2 : (wd.alloc (.cells #[] 43)).heap[wd.heap.size]? = some (.cells #[] 43 (0, 0)) := by rw [heapq_alloc, if_pos rfl]
    have hg : W0.heap.size ≤ wd.heap.size := hbd.size
    generalize wd.alloc (.cells #[] 43) = w2 at *
    generalize wd.heap.size = g at *
    refine onlyNormal_mk ⟨⟨⟨_, hb02⟩, rfl⟩, ?_⟩
    refine wpE_one (i := 2) rfl (by kernel_rfl) rfl ?_
    unfold wpMid
    simp only [opsAt_nil, opsAt_cons, consOpt_some, List.getElem?_toArray, List.getElem?_cons_zero, List.getElem?_cons_succ]
    go_wp2_with (go_at_call 13; refine (CopyTexts_any w2 B Ap np cp pp HL.out hn (hp0.below (hb02.mono hBW)) (Nat.le_trans hBW hb02.size)).mono ?_; rintro e w3 ⟨AR, cR, rfl, hcap, hR3, hb3⟩)
    have hb03 := hb02.trans (hb3.mono hb02.size)
    have gq := (hb3.block g (lt_of_block gq2)).trans gq2
    refine onlyNormal_mk ⟨⟨⟨_, hb03⟩, rfl⟩, ?_⟩
    refine wpE_one (i := 6) rfl (by kernel_rfl) rfl ?_
    unfold wpMid
    simp only [opsAt_nil, opsAt_cons, consOpt_some, List.getElem?_toArray, List.getElem?_cons_zero, List.getElem?_cons_succ]
    have hrd := hw0.below (hb03.mono hBW)
    have hgl := lt_of_block gq
    have n3 := rd_ne hR3 gq (fun i n h => by simp at h)
    refine wpList_append_copy w3 rfl _ _ 23 rfl g 43 i1 _ 6 48 Tryz.underlying23 hi1 hy0 hy1 hy2 rfl (by omega) g rfl gq (Nat.le_refl _) B Aw nw cw (actCells ws) rfl (by rw [actCells_len, HLW.out]) hrd (actCells_one ws) (by simp only [maxLen]; omega) (by omega) (Nat.le_of_lt hgl) ?_
    intro G cG w4 hown hgrow _
    have hb4 : Below W0.heap.size W0 w4 := hb03.grown hgrow hb03.size (fun k hk => by rw [← Option.some.inj hk]; exact hg)
    have hG := ownBlk hown rfl
    have hR4 := rd_kept hR3 hgrow n3
    have hk4 := (hb4.block (x + 1) HX.out).trans K1.out
    have n4 := rd_ne hR4 hk4 (fun i n h => by rcases i with _ | _ | i <;> simp at h)
    have s4 := hgrow.size
    have RPP : Rd w4 w3.heap.size AR (strCells pp) ∧ w3.heap.size ≤ w4.heap.size ∧ _ := ⟨hR4, s4, n4⟩
    have RWW : Rd w4 w4.heap.size (some ⟨G, 0, none⟩) (actCells ws) ∧ w4.heap.size ≤ w4.heap.size ∧ ∀ (k : Nat) (u : Value), (actCells ws)[k]? = some u → ∀ b off, some (⟨G, 0, none⟩ : Addr) = some ⟨b, off, none⟩ → b ≠ x + 1 :=
      ⟨Rd_of_own hown, Nat.le_refl _, fun k u _ b off he => by
        simp only [Option.some.injEq, Addr.mk.injEq, and_true] at he
        have := HX.out
        have := hG.1
        omega⟩
    clear hrd n3 hown hgrow hR4 hk4 n4
    refine onlyNormal_mk ⟨⟨⟨_, hb4⟩, rfl⟩, ?_⟩
    refine wpE_tail rfl (by kernel_rfl) ?_
    simp only [opsAt_nil, opsAt_cons, consOpt_some, List.getElem?_toArray, List.getElem?_cons_zero, List.getElem?_cons_succ]
    have hk := (hb4.block (x + 1) HX.out).trans K1.out
    have t0 := cell_of_row w4 (x + 1) 0 _ _ _ hk
    have t1 := cell_of_row w4 (x + 1) 1 _ _ _ hk
    simp at t0 t1
    have q0 := frozen_of_row w4 (x + 1) 0 _ _ hk
    have q1 := frozen_of_row w4 (x + 1) 1 _ _ hk
    have RP := Lib.hid RPP
    have RW := Lib.hid RWW
    have HBE := Lib.hid (HB.out.trans (hb4.mono hs1))
    clear hk
    go_wp2
    refine onlyNormal_mk ?_
    go_wp2
    refine bodyPost_ret (v := .agg #[.slice AR np cR, .slice (some ⟨G, 0, none⟩) nw cG]) (by simp [results, Tryz.results10, go_sem, t0, t1]) rfl ⟨AR, cR, _, cG, rfl, hcap, ?_, ?_, ?_⟩
    · exact rd_set2 RP.out
    · exact rd_set2 RW.out
    · rw [HXX.out]
      exact (HBE.out.setCell (p := ⟨x + 1, 0, none⟩) (Nat.le_add_right x 1) _).setCell (p := ⟨x + 1, 1, none⟩) (Nat.le_add_right x 1) _


end Go.Proofs.YtnnnpijepdjanaaGreat
