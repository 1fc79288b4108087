/- Suspects, explains, Contains. -/
import Derived.Test.YtlbgocgocanloaaGreatDoorf5Z2
import Derived.Test.YtlbgocgocanloaaGreatDoorf5C6
namespace Go.Proofs.YtlbgocgocanloaaGreatDoor
open Go.RowKit
/-- the suspects below a number -/
def suspK (l : List Rg) (k : Nat) : List Int := ((List.range k).filter fun (b : Nat) => !l.any (goodB (b : Int))).map fun (b : Nat) => (b : Int)
theorem suspK_yes {l : List Rg} {k : Nat} (h : l.any (goodB (k : Int)) = false) : suspK l (k + 1) = suspK l k ++ [(k : Int)] := by
  simp [suspK, List.range_succ, List.filter_append, h]
theorem suspK_no {l : List Rg} {k : Nat} (h : l.any (goodB (k : Int)) = true) : suspK l (k + 1) = suspK l k := by
  simp [suspK, List.range_succ, List.filter_append, h]
theorem suspK_len (l : List Rg) (k : Nat) : (suspK l k).length ≤ k := by
  simp only [suspK, List.length_map]
  exact Nat.le_trans (List.length_filter_le _ _) (by simp)
theorem suspK_in {l : List Rg} {k : Nat} : ∀ x ∈ suspK l k, 0 ≤ x ∧ x < k := by
  intro x hx
  simp only [suspK, List.mem_map, List.mem_filter, List.mem_range] at hx
  obtain ⟨b, ⟨h1, _⟩, rfl⟩ := hx
  omega
theorem rd_own {w : World} {B e size n c : Nat} {A : Option Addr} {xs : List Value} (h : w.ownsRow B e size (.slice A n c) n xs) : Rd w w.heap.size A xs := by
  rcases h.2 with ⟨h1, h2⟩ | ⟨g, cap, cur, h1, _⟩
  · intro k u hk
    have := h.1
    rw [h2, Nat.zero_mul] at this
    rw [List.eq_nil_of_length_eq_zero this] at hk
    simp at hk
  · simp only [Value.slice.injEq] at h1
    obtain ⟨rfl, _, rfl⟩ := h1
    exact Rd_of_own h
def SuspRel (w0 : World) (l : List Rg) (n : Nat) (u3 u8 : Value) (wr : World) : Prop :=
  ∃ k : Nat, k ≤ n ∧ u8 = .int .i64 k ∧ wr.ownsRow w0.heap.size 3 1 u3 (suspK l k).length (intCells (suspK l k)) ∧ Below w0.heap.size w0 wr
set_option maxRecDepth 100000 in
set_option maxHeartbeats 8000000 in
theorem suspects_any (w : World) (B : Nat) (bm : Nat) (A : Option Addr) (n c : Nat) (l : List Rg) (hl : l.length = n) (h : Rd w B A (rgCells l)) (hB : B ≤ w.heap.size) (hn : n ≤ 40) (hbm : bm ≤ 40) :
    Calls Tryz.prog 76 #[.agg #[.int .i64 bm, .slice A n c]] w (IntsPost w (suspK l bm) (suspK l bm).length) := by
  obtain ⟨i1, hi1, hy0, hy1, hy2⟩ := info_parts info3
  have hb0 : Below w.heap.size w (w.alloc (.cells #[.int .i64 (bm : Int), .slice A n c] 70)) := (Below.refl _ _).alloc (Nat.le_refl _) _
  have h0 := h.below (hb0.mono hB)
  have k0 : (w.alloc (.cells #[.int .i64 (bm : Int), .slice A n c] 70)).heap[w.heap.size]? = some (.cells #[.int .i64 (bm : Int), .slice A n c] 70 (0, 0)) := by rw [heapq_alloc, if_pos rfl]
  have c0 : (w.alloc (.cells #[.int .i64 (bm : Int), .slice A n c] 70)).cell? ⟨w.heap.size, 0, none⟩ = some (.int .i64 (bm : Int)) := (cell_of_row _ _ 0 _ _ _ k0).trans rfl
  have c1 : (w.alloc (.cells #[.int .i64 (bm : Int), .slice A n c] 70)).cell? ⟨w.heap.size, 1, none⟩ = some (.slice A n c) := (cell_of_row _ _ 1 _ _ _ k0).trans rfl
  have hs0 : w.heap.size ≤ (w.alloc (.cells #[.int .i64 (bm : Int), .slice A n c] 70)).heap.size := hb0.size
  have hB0 := Nat.le_trans hB hs0
  have HL := Lib.hid hl
  have HB := Lib.hid hb0
  clear h hl hb0 k0
  go_enter Tryz.func76, Tryz.ntmps76
  go_upto_region 1 with (fail)
  generalize w.alloc (.cells #[.int .i64 (bm : Int), .slice A n c] 70) = w0 at *
  go_wp2
  go_loopw [3, 8] (fun u3 u8 wr => SuspRel w0 l bm u3 u8 wr) (fun _ u8 _ => bm - (intOf u8).toNat)
  case atStart => exact ⟨0, Nat.zero_le _, rfl, ⟨rfl, .inl ⟨rfl, rfl⟩⟩, Below.refl _ _⟩
  case round =>
    obtain ⟨k, hk, rfl, hown, hb⟩ := hrel
    have HOWN := Lib.hid hown
    obtain ⟨Au, cu, rfl⟩ := rowForm hown
    have HBW := Lib.hid hb
    have hsz := hb.size
    have c1' := kept hb c1
    have hr := h0.below (hb.mono hB0)
    have hl41 := suspK_len l k
    clear hb hown
    by_cases hlt : k < bm
    · have hba : Below wr.heap.size wr (wr.alloc (.cells #[.int .i64 (k : Int)] 3)) := (Below.refl _ _).alloc (Nat.le_refl _) _
      have kb : (wr.alloc (.cells #[.int .i64 (k : Int)] 3)).heap[wr.heap.size]? = some (.cells #[.int .i64 (k : Int)] 3 (0, 0)) := by rw [heapq_alloc, if_pos rfl]
      have m0 := (cell_of_row _ _ 0 _ _ _ kb).trans (by rfl : _ = some (.int .i64 (k : Int)))
      replace c1' := kept hba c1'
      have hr' := hr.below (hba.mono (Nat.le_trans hB0 hsz))
      have HOWA := Lib.hid (ownsRow_below HOWN.out hba)
      have HBA := Lib.hid (HBW.out.trans (hba.mono hsz))
      have hsa := Nat.le_trans hsz hba.size
      clear hba kb hr HOWN HBW
      go_upto_region 5 with (fail)
      generalize wr.alloc (.cells #[.int .i64 (k : Int)] 3) = wa at *
      generalize wr.heap.size = zb at *
      have C := ContainsFunc_154 A n c B zb l (k : Int) wa (by omega) HL.out hr' (Nat.le_trans hB0 hsa) m0
      cases hz : l.any (goodB (k : Int)) with
      | true =>
        rw [hz] at C
        have HK := Lib.hid (suspK_no hz)
        clear hz
        go_wp2_with (go_at_call 113; refine C.mono ?_; rintro e w2 ⟨rfl, hb2⟩)
        go_roundw
        case rel => exact ⟨k + 1, by omega, by go_num, by rw [HK.out]; exact ownsRow_below HOWA.out hb2, HBA.out.trans (hb2.mono hsa)⟩
        case measure => simp [intOf]; omega
      | false =>
        rw [hz] at C
        have HK := Lib.hid (suspK_yes hz)
        clear hz
        go_upto_region 7 with (go_at_call 113; refine C.mono ?_; rintro e w2 ⟨rfl, hb2⟩)
        have m0' := kept hb2 m0
        have HOW2 := Lib.hid (ownsRow_below HOWA.out hb2)
        have HB2 := Lib.hid (HBA.out.trans (hb2.mono hsa))
        have hs2 := Nat.le_trans hsa hb2.size
        clear hb2 C m0 c1' hr' HOWA HBA
        go_wp2_with (at_builtin; refine stp ?_)
        unfold Stp
        refine wpList_append_lies _ rfl _ _ 44 rfl w0.heap.size 3 i1 _ 1 8 Tryz.underlying44 hi1 hy0 hy1 hy2 rfl (by omega) (.slice Au (suspK l k).length cu) (suspK l k).length (intCells (suspK l k)) rfl (HOW2.out.alloc _) ⟨w2.heap.size, 0, none⟩ 1 1 [.int .i64 (k : Int)] rfl rfl (news1 (by simp)) (by simp [Value.oneCell']) (by omega) (by simp only [maxLen]; omega) (by omega) (by simp; omega) _ rfl ?_
        intro gg cap w3 hown1 hgrow hat hlt9
        have hb9 : Below w0.heap.size w0 w3 := (HB2.out.alloc hs2 _).grown hgrow (by simp; omega) (fun k hk => (ownBlk HOW2.out hk).1)
        have HOWN1 := Lib.hid hown1
        have HB9 := Lib.hid hb9
        clear hown1 hgrow hat hlt9 hb9 m0'
        go_wp2
        go_roundw
        case rel => exact ⟨k + 1, by omega, by go_num, (by rw [HK.out]; simpa [intCells] using HOWN1.out), HB9.out⟩
        case measure => simp [intOf]; omega
    · obtain rfl : k = bm := by omega
      go_wp2
      go_ret
      exact ⟨_, _, rfl, rd_own HOWN.out, HB.out.trans (HBW.out.mono hs0)⟩
theorem recM_zero {bm : Int} {l : List Rg} (h : recM bm l = 0) : 1 ≤ bm ∧ bm ≤ 40 ∧ l.length ≤ 40 := by
  unfold recM at h
  split at h
  · rename_i h1
    split at h
    · rename_i h2
      have : 1 ≤ bm ∧ bm ≤ 40 := by simpa [withinB] using h1
      exact ⟨this.1, this.2, h2⟩
    · cases h
  · cases h
/-- is a number among some -/
def hasI (l : List Int) (x : Int) : Bool := l.any fun y => y == x
end Go.Proofs.YtlbgocgocanloaaGreatDoor

/- Records in the reference: the copy, the error, few readings. -/
namespace Go.Proofs.YtlbgocgocanloaaGreatDoor
open Go.RowKit
theorem info148 : (Tryz.prog.info? 148).map (fun i => (i.zero, i.size, i.bytes)) = some (some (.agg #[.int .i64 0, .int .i64 0, .bool false]), 3, 24) := by kernel_rfl
def RecCopied (w : World) (bm : Int) (l : List Rg) (n : Nat) (e : Ending) (w' : World) : Prop :=
  ∃ A c, e = .returned (.agg #[.int .i64 bm, .slice A n c]) ∧ Rd w' w'.heap.size A (rgCells l) ∧ Below w.heap.size w w'
set_option maxRecDepth 100000 in
set_option maxHeartbeats 4000000 in
theorem CopyRecord_any (w : World) (B : Nat) (bm : Int) (A : Option Addr) (n c : Nat) (l : List Rg) (hl : l.length = n) (hn : n ≤ 1000000) (h : Rd w B A (rgCells l)) (hB : B ≤ w.heap.size) :
    Calls Tryz.prog 31 #[.agg #[.int .i64 bm, .slice A n c]] w (RecCopied w bm l n) := by
  obtain ⟨i1, hi1, hy0, hy1, hy2⟩ := info_parts info148
  have hb0 : Below w.heap.size w ((w.alloc (.cells #[.int .i64 bm, .slice A n c] 70)).alloc (.cells #[.int .i64 0, .slice none 0 0] 70)) := ((Below.refl _ _).alloc (Nat.le_refl _) _).alloc (by simp) _
  have k0 : ((w.alloc (.cells #[.int .i64 bm, .slice A n c] 70)).alloc (.cells #[.int .i64 0, .slice none 0 0] 70)).heap[w.heap.size]? = some (.cells #[.int .i64 bm, .slice A n c] 70 (0, 0)) := by
    rw [heapq_alloc, if_neg (by simp), heapq_alloc, if_pos rfl]
  have k1 : ((w.alloc (.cells #[.int .i64 bm, .slice A n c] 70)).alloc (.cells #[.int .i64 0, .slice none 0 0] 70)).heap[w.heap.size + 1]? = some (.cells #[.int .i64 0, .slice none 0 0] 70 (0, 0)) := by
    rw [heapq_alloc, if_pos (by simp)]
  have h0 := h.below (hb0.mono hB)
  have hs1 := hb0.size
  have hx1 : w.heap.size + 1 < ((w.alloc (.cells #[.int .i64 bm, .slice A n c] 70)).alloc (.cells #[.int .i64 0, .slice none 0 0] 70)).heap.size := by simp
  have HB := Lib.hid hb0
  have HL := Lib.hid hl
  have K1 := Lib.hid k1
  have a0 : ((w.alloc (.cells #[.int .i64 bm, .slice A n c] 70)).alloc (.cells #[.int .i64 0, .slice none 0 0] 70)).cell? ⟨w.heap.size, 0, none⟩ = some (.int .i64 bm) := (cell_of_row _ _ 0 _ _ _ k0).trans rfl
  have a1 : ((w.alloc (.cells #[.int .i64 bm, .slice A n c] 70)).alloc (.cells #[.int .i64 0, .slice none 0 0] 70)).cell? ⟨w.heap.size, 1, none⟩ = some (.slice A n c) := (cell_of_row _ _ 1 _ _ _ k0).trans rfl
  have HX := Lib.hid hx1
  clear hl h hb0 k0 k1 hx1
  go_enter Tryz.func31, Tryz.ntmps31
  go_upto_region 1 with (fail)
  generalize ((w.alloc (.cells #[.int .i64 bm, .slice A n c] 70)).alloc (.cells #[.int .i64 0, .slice none 0 0] 70)) = W0 at *
  have hBW : B ≤ W0.heap.size := Nat.le_trans hB hs1
  generalize hx : w.heap.size = x at *
  have HXX := Lib.hid hx
  clear hx
  have x0 := fun y : Xt W0 => y.cell a0
  have x1 := fun y : Xt W0 => y.cell a1
  refine wp_region_eager [6, 7] (fun w' => ∃ y : Xt W0, w' = y.1) (by kernel_rfl) ⟨⟨W0.drew, (Below.refl _ _).drew⟩, rfl⟩ ?_
  refine wpE_reads [0, 1, 3, 4] 4 rfl (by kernel_rfl) ?_
  simp only [opsAt_nil, opsAt_cons, consOpt_some, List.getElem?_toArray, List.getElem?_cons_zero, List.getElem?_cons_succ]
  repeat (go_big_quiet_step (fail))
  refine wpQuiet_nil ?_
  have hbd : Below W0.heap.size W0 W0.drew := (Below.refl _ _).drew
  show wpE _ _ _ _ _ _ _ _ _ W0.drew
  generalize W0.drew = wd at *
  clear x0 x1 a0 a1
  refine wpE_one (i := 2) rfl (by kernel_rfl) rfl ?_
  unfold wpMid
  simp only [opsAt_nil, opsAt_cons, consOpt_some, List.getElem?_toArray, List.getElem?_cons_zero, List.getElem?_cons_succ]
  go_wp2
  have hb03 : Below W0.heap.size W0 (wd.alloc (.cells #[] 148)) := hbd.alloc hbd.size _
  have gq : (wd.alloc (.cells #[] 148)).heap[wd.heap.size]? = some (.cells #[] 148 (0, 0)) := by rw [heapq_alloc, if_pos rfl]
  have hg : W0.heap.size ≤ wd.heap.size := hbd.size
  generalize wd.alloc (.cells #[] 148) = w3 at *
  generalize wd.heap.size = g at *
  refine onlyNormal_mk ⟨⟨⟨_, hb03⟩, rfl⟩, ?_⟩
  refine wpE_one (i := 5) rfl (by kernel_rfl) rfl ?_
  unfold wpMid
  simp only [opsAt_nil, opsAt_cons, consOpt_some, List.getElem?_toArray, List.getElem?_cons_zero, List.getElem?_cons_succ]
  have hrd := h0.below (hb03.mono hBW)
  have hgl := lt_of_block gq
  refine wpList_append_copy w3 rfl _ _ 68 rfl g 148 i1 _ 3 24 Tryz.underlying68 hi1 hy0 hy1 hy2 rfl (by omega) g rfl gq (Nat.le_refl _) B A n c (rgCells l) rfl (by rw [rgCells_len, HL.out]) hrd (rgCells_one l) (by simp only [maxLen]; omega) (by omega) (Nat.le_of_lt hgl) ?_
  intro G cG w4 hown hgrow _
  have hb4 : Below W0.heap.size W0 w4 := hb03.grown hgrow hb03.size (fun k hk => by rw [← Option.some.inj hk]; exact hg)
  have hk4 := (hb4.block (x + 1) HX.out).trans K1.out
  have m4 : x + 1 ≠ G := ownBlk_ne hown rfl hk4 (by decide)
  have HOWN := Lib.hid hown
  refine onlyNormal_mk ⟨⟨⟨_, hb4⟩, rfl⟩, ?_⟩
  refine wpE_tail rfl (by kernel_rfl) ?_
  simp only [opsAt_nil, opsAt_cons, consOpt_some, List.getElem?_toArray, List.getElem?_cons_zero, List.getElem?_cons_succ]
  have t0 := cell_of_row w4 (x + 1) 0 _ _ _ hk4
  have t1 := cell_of_row w4 (x + 1) 1 _ _ _ hk4
  simp at t0 t1
  have q0 := frozen_of_row w4 (x + 1) 0 _ _ hk4
  have q1 := frozen_of_row w4 (x + 1) 1 _ _ hk4
  have HBE := Lib.hid (HB.out.trans (hb4.mono hs1))
  clear hrd hown hgrow hk4 gq
  go_wp2
  refine onlyNormal_mk ?_
  go_wp2
  refine bodyPost_ret (v := .agg #[.int .i64 bm, .slice (some ⟨G, 0, none⟩) n cG]) (by simp [results, Tryz.results31, go_sem, t0, t1]) rfl ⟨_, cG, rfl, ?_, ?_⟩
  · exact Rd_of_own (ownsRow_setCell_other (ownsRow_setCell_other HOWN.out (by simp [Value.ownBlock]; omega) _) (by simp [Value.ownBlock]; omega) _)
  · rw [HXX.out]
    exact (HBE.out.setCell (p := ⟨x + 1, 0, none⟩) (Nat.le_add_right x 1) _).setCell (p := ⟨x + 1, 1, none⟩) (Nat.le_add_right x 1) _
set_option maxRecDepth 100000 in
set_option maxHeartbeats 8000000 in
theorem RecordErr_any (w : World) (B : Nat) (bm : Int) (A : Option Addr) (n c : Nat) (l : List Rg) (hl : l.length = n) (h : Rd w B A (rgCells l)) (hB : B ≤ w.heap.size) :
    Calls Tryz.prog 29 #[.agg #[.int .i64 bm, .slice A n c]] w (ErrVal w (recM bm l)) := by
  have hb0 : Below w.heap.size w (w.alloc (.cells #[.int .i64 bm, .slice A n c] 70)) := (Below.refl _ _).alloc (Nat.le_refl _) _
  have h0 := h.below (hb0.mono hB)
  have k0 : (w.alloc (.cells #[.int .i64 bm, .slice A n c] 70)).heap[w.heap.size]? = some (.cells #[.int .i64 bm, .slice A n c] 70 (0, 0)) := by rw [heapq_alloc, if_pos rfl]
  have c0 : (w.alloc (.cells #[.int .i64 bm, .slice A n c] 70)).cell? ⟨w.heap.size, 0, none⟩ = some (.int .i64 bm) := (cell_of_row _ _ 0 _ _ _ k0).trans rfl
  have c1 : (w.alloc (.cells #[.int .i64 bm, .slice A n c] 70)).cell? ⟨w.heap.size, 1, none⟩ = some (.slice A n c) := (cell_of_row _ _ 1 _ _ _ k0).trans rfl
  have hs0 : w.heap.size ≤ (w.alloc (.cells #[.int .i64 bm, .slice A n c] 70)).heap.size := hb0.size
  have hB0 := Nat.le_trans hB hs0
  have HL := Lib.hid hl
  have HB := Lib.hid hb0
  clear h hl hb0 k0
  cases q0 : withinB bm 1 40 with
  | false =>
    have HV : Hid (recM bm l = 2) := by rw [Hid, recM, q0, if_neg (by decide)]
    have Q := fun W => Within_val bm 1 40 false q0 W
    clear q0
    go_enter Tryz.func29, Tryz.ntmps29
    go_upto_region 1 with (fail)
    generalize w.alloc (.cells #[.int .i64 bm, .slice A n c] 70) = w0 at *
    go_wp2_with (go_at_call 19; refine (Q _).mono ?_; rintro e w' ⟨rfl, rfl⟩)
    go_ret
    exact ⟨by rw [HV.out]; rfl, HB.out⟩
  | true =>
    have hbm : 1 ≤ bm ∧ bm ≤ 40 := by simpa [withinB] using q0
    obtain ⟨hbm0, hbm1⟩ := hbm
    have Q := fun W => Within_val bm 1 40 true q0 W
    by_cases hn40 : n ≤ 40
    · have HV : Hid (recM bm l = rdGo bm l) := by rw [Hid, recM, q0, if_pos rfl, if_pos (by rw [HL.out]; exact hn40)]
      have g1 : ¬ (40 : Int) < (n : Int) := by omega
      clear q0
      go_enter Tryz.func29, Tryz.ntmps29
      go_upto_region 1 with (fail)
      generalize w.alloc (.cells #[.int .i64 bm, .slice A n c] 70) = w0 at *
      go_wp2_with (go_at_call 19; refine (Q _).mono ?_; rintro e w' ⟨rfl, rfl⟩)
      clear Q
      go_loopw [3] (fun u wr => RecRel w0 bm l n (rdGo bm l) u wr) (fun u _ => n - (intOf u).toNat)
      case atStart => exact ⟨0, Nat.zero_le _, rfl, by simp, Below.refl _ _⟩
      case round =>
        obtain ⟨k, hk, rfl, hgo, hb⟩ := hrel
        have HBR := Lib.hid hb
        replace c0 := kept hb c0
        replace c1 := kept hb c1
        have hsz := hb.size
        have hr := h0.below (hb.mono hB0)
        clear hb h0
        by_cases hlt : k < n
        · have hkl : k < l.length := by rw [HL.out]; exact hlt
          obtain ⟨ev, hev⟩ : ∃ ev, l[k]? = some ev := ⟨_, List.getElem?_eq_getElem hkl⟩
          obtain ⟨z0, z1, z2⟩ := rgCells_at l k ev hev
          obtain ⟨bb, off, rfl, hbB, e0, e1, e2⟩ := hr.at3 z0 z1 z2
          rw [drop_cons' hev, rdGo] at hgo
          obtain ⟨f, td, wr_⟩ := ev
          simp only at e0 e1 e2
          have HGO := Lib.hid hgo
          have hba : Below wr.heap.size wr (wr.alloc (.cells #[.int .i64 f, .int .i64 td, .bool wr_] 148)) := (Below.refl _ _).alloc (Nat.le_refl _) _
          have HBK := Lib.hid (HBR.out.trans (hba.mono hsz))
          have HBF := Lib.hid (HB.out.trans (HBK.out.mono hs0))
          have kb : (wr.alloc (.cells #[.int .i64 f, .int .i64 td, .bool wr_] 148)).heap[wr.heap.size]? = some (.cells #[.int .i64 f, .int .i64 td, .bool wr_] 148 (0, 0)) := by rw [heapq_alloc, if_pos rfl]
          have m0 := (cell_of_row _ _ 0 _ _ _ kb).trans (by rfl : _ = some (.int .i64 f))
          have m1 := (cell_of_row _ _ 1 _ _ _ kb).trans (by rfl : _ = some (.int .i64 td))
          have c0' := kept hba c0
          have hsa := hba.size
          clear hba kb z0 z1 z2 hev hkl hr HBR hgo
          go_upto_region 9 with (fail)
          generalize wr.alloc (.cells #[.int .i64 f, .int .i64 td, .bool wr_] 148) = wa at *
          generalize wr.heap.size = zb at *
          have HRD : Hid (rdE bm (f, td, wr_) = if (withinB f 0 (bm - 1) && withinB td 0 (bm - 1)) = true then (if f ≤ td then 0 else 9) else 6) := rfl
          cases q1 : withinB f 0 (bm - 1) <;> cases q2 : withinB td 0 (bm - 1) <;> rcases Int.lt_or_le td f with q3 | q3
          all_goals
            have HQ : Hid (rdE bm (f, td, wr_) = _) := HRD.out
            rw [q1, q2] at HQ
            first
              | (have HG : Hid (rdGo bm (l.drop (k + 1)) = rdGo bm l) := by
                   have := HGO.out
                   rw [if_pos (HQ.out.trans ((if_pos (by decide)).trans (if_pos q3)))] at this
                   exact this
                 clear HQ HRD HGO
                 go_wp2_with (first | (go_at_call_of 19 (Value.int .i64 f); refine (Within_val _ _ _ _ q1 _).mono ?_; rintro e w' ⟨rfl, rfl⟩) | (go_at_call_of 19 (Value.int .i64 td); refine (Within_val _ _ _ _ q2 _).mono ?_; rintro e w' ⟨rfl, rfl⟩))
                 go_roundw
                 case rel => exact ⟨k + 1, by omega, by go_num, HG.out, HBK.out⟩
                 case measure => simp [intOf]; omega)
              | (have HG : Hid (rdGo bm l = 6) := by
                   have := HGO.out
                   have h6 : rdE bm (f, td, wr_) = 6 := HQ.out.trans (by rw [if_neg (by decide)])
                   rw [h6, if_neg (by decide)] at this
                   exact this.symm
                 clear HQ HRD HGO
                 go_wp2_with (first | (go_at_call_of 19 (Value.int .i64 f); refine (Within_val _ _ _ _ q1 _).mono ?_; rintro e w' ⟨rfl, rfl⟩) | (go_at_call_of 19 (Value.int .i64 td); refine (Within_val _ _ _ _ q2 _).mono ?_; rintro e w' ⟨rfl, rfl⟩))
                 go_ret
                 exact ⟨by rw [HV.out, HG.out]; rfl, HBF.out⟩)
              | (have HG : Hid (rdGo bm l = 9) := by
                   have := HGO.out
                   have h6 : rdE bm (f, td, wr_) = 9 := HQ.out.trans ((if_pos (by decide)).trans (if_neg (by omega)))
                   rw [h6, if_neg (by decide)] at this
                   exact this.symm
                 clear HQ HRD HGO
                 go_wp2_with (first | (go_at_call_of 19 (Value.int .i64 f); refine (Within_val _ _ _ _ q1 _).mono ?_; rintro e w' ⟨rfl, rfl⟩) | (go_at_call_of 19 (Value.int .i64 td); refine (Within_val _ _ _ _ q2 _).mono ?_; rintro e w' ⟨rfl, rfl⟩))
                 go_ret
                 exact ⟨by rw [HV.out, HG.out]; rfl, HBF.out⟩)
        · obtain rfl : k = n := by omega
          have hd : l.drop k = [] := by rw [List.drop_eq_nil_iff]; rw [HL.out]; exact Nat.le_refl _
          rw [hd] at hgo
          have HG : Hid (rdGo bm l = 0) := hgo.symm
          clear hgo hd
          go_wp2
          go_ret
          exact ⟨by rw [HV.out, HG.out]; rfl, HB.out.trans (HBR.out.mono hs0)⟩
    · have HV : Hid (recM bm l = 8) := by rw [Hid, recM, q0, if_pos rfl, if_neg (by rw [HL.out]; exact hn40)]
      have g1 : (40 : Int) < (n : Int) := by omega
      clear q0
      go_enter Tryz.func29, Tryz.ntmps29
      go_upto_region 1 with (fail)
      generalize w.alloc (.cells #[.int .i64 bm, .slice A n c] 70) = w0 at *
      go_wp2_with (go_at_call 19; refine (Q _).mono ?_; rintro e w' ⟨rfl, rfl⟩)
      go_ret
      exact ⟨by rw [HV.out]; rfl, HB.out⟩
end Go.Proofs.YtlbgocgocanloaaGreatDoor
