/- Readings sorted by their ends, in memory of the call's own. -/
import Derived.Test.YtlbgocgocanloaaGreatDoorf5U1
import Derived.Test.YtlbgocgocanloaaGreatDoorf5W5
import Derived.Test.YtlbgocgocanloaaGreatDoorf5Z4
namespace Go.Proofs.YtlbgocgocanloaaGreatDoor
open Go.RowKit
def SortedPost (w : World) (blk : Nat) (l : List Rg) (e : Ending) (w' : World) : Prop :=
  e = .returned (.tuple #[]) ∧ ∃ m : List Rg, (∀ r, r ∈ m ↔ r ∈ l) ∧ m.length = l.length ∧ m.Pairwise (fun a b => a.2.1 ≤ b.2.1) ∧ (∀ k u, (rgCells m)[k]? = some u → w'.cell? ⟨blk, k, none⟩ = some u) ∧ Below blk w w'
open Go.Shelf Go.Sort
theorem flat_eq (l : List Rg) (j : Nat) (hj : j < l.length * 3) : (rgCells l)[j]? = some ((flatK rgVals 3 l.toArray)[j]!) := by
  rw [get_flatK _ _ _ _ (by simpa using hj)]
  have h3 : j / 3 < l.length := by omega
  have he : l.toArray[j / 3]! = l[j / 3] := by simp [h3]
  rw [he]
  obtain ⟨c0, c1, c2⟩ := rgCells_at l (j / 3) l[j / 3] (List.getElem?_eq_getElem h3)
  have hm : j % 3 = 0 ∨ j % 3 = 1 ∨ j % 3 = 2 := by omega
  rcases hm with hm | hm | hm
  · rw [show j / 3 * 3 = j by omega] at c0
    rw [c0, hm]
    rfl
  · rw [show j / 3 * 3 + 1 = j by omega] at c1
    rw [c1, hm]
    rfl
  · rw [show j / 3 * 3 + 2 = j by omega] at c2
    rw [c2, hm]
    rfl
theorem lt_end (x y : Rg) : ltOf (fun x y : Rg => cmpI x.2.1 y.2.1) x y = decide (x.2.1 < y.2.1) := by
  show decide (cmpI x.2.1 y.2.1 < 0) = _
  rcases Int.lt_trichotomy x.2.1 y.2.1 with h | h | h
  · rw [cmpI_lt h]
    simp [h]
  · rw [cmpI_eq h]
    simp [h]
  · rw [cmpI_gt h]
    have : ¬ x.2.1 < y.2.1 := by omega
    simp [this]
theorem swo_end : SWO (ltOf fun x y : Rg => cmpI x.2.1 y.2.1) where
  irrefl x := by
    rw [lt_end]
    simp
  trans x y z h1 h2 := by
    rw [lt_end, decide_eq_true_eq] at *
    omega
  ntrans x y z h1 h2 := by
    rw [lt_end, decide_eq_false_iff_not] at *
    omega
theorem SortRg_own (w : World) (B blk cap : Nat) (l : List Rg) (h : w.ownsRow B 148 3 (.slice (some ⟨blk, 0, none⟩) l.length cap) l.length (rgCells l)) (hlen : l.length ≤ 12) :
    Calls Tryz.prog 110 #[.slice (some ⟨blk, 0, none⟩) l.length cap, .func (.func 111) #[] #[]] w (SortedPost w blk l) := by
  have hblk : blk < w.heap.size := (ownBlk h rfl).2.1
  have hH : HoldsK rgVals 3 w blk 0 l.toArray := by
    intro j hj
    have hj' : j < l.length * 3 := by simpa using hj
    refine ⟨?_, by simpa using h.frozenAt (0 + j)⟩
    rw [Nat.zero_add, h.cellAt j hj', flat_eq l j hj']
    rfl
  have hS := SortRg_small blk 0 cap l.toArray w hH hblk (by simpa using hlen)
  rw [List.size_toArray] at hS
  refine hS.mono ?_
  rintro e w' ⟨rfl, n, os, rfl⟩
  obtain ⟨hp, hs⟩ := insertionSort_holds (lt := ltOf fun x y : Rg => cmpI x.2.1 y.2.1) swo_end l.toArray 0 l.toArray.size (Nat.zero_le _) (Nat.le_refl _)
  rw [List.size_toArray] at hp hs
  obtain ⟨p1, _, p3⟩ := hp
  generalize Sort.insertionSort (ltOf fun x y : Rg => cmpI x.2.1 y.2.1) l.toArray 0 l.length = d at *
  have hd : d.size = l.length := by simpa using p1
  have hperm : d.toList.Perm l := by
    rw [show d.extract 0 l.length = d by rw [← hd]; simp, show l.toArray.extract 0 l.length = l.toArray by rw [← List.size_toArray]; simp] at p3
    simpa using p3
  have hda : d.toList.toArray = d := by simp
  have hsz : (putRowK rgVals 3 (Sort.ahead w n) blk 0 d).heap.size = w.heap.size := by simp [putRowK, putRow, mapBlock, Sort.ahead]
  refine ⟨rfl, d.toList, fun r => hperm.mem_iff, hperm.length_eq, ?_, ?_, ⟨rfl, rfl, rfl, ?_, ?_⟩⟩
  · rw [List.pairwise_iff_getElem]
    intro i j hi hj hij
    have hi' : i < d.size := by simpa using hi
    have hj' : j < d.size := by simpa using hj
    have := hs i j (Nat.zero_le _) hij (by omega)
    rw [getElem!_pos d j hj', getElem!_pos d i hi'] at this
    rw [lt_end, decide_eq_false_iff_not] at this
    simp only [Array.getElem_toList]
    omega
  · intro k u hu
    have hk : k < d.toList.length * 3 := by
      have := (List.getElem?_eq_some_iff.1 hu).1
      rwa [rgCells_len] at this
    have hk' : k < d.size * 3 := by simpa using hk
    show World.cell? (grow (putRowK rgVals 3 (Sort.ahead w n) blk 0 d) os) _ = _
    rw [cell?_grow _ _ _ (by rw [hsz]; exact hblk)]
    have h1 := cell?_putRow id (Sort.ahead w n) blk 0 (flatK rgVals 3 l.toArray) (flatK rgVals 3 d) hH (by simp [hd]) k (by simp; omega)
    rw [Nat.zero_add] at h1
    show (putRow id (Sort.ahead w n) blk 0 (flatK rgVals 3 d)).cell? _ = _
    rw [h1, ← hu, flat_eq d.toList k hk, hda]
    rfl
  · show w.heap.size ≤ (grow (putRowK rgVals 3 (Sort.ahead w n) blk 0 d) os).heap.size
    rw [size_grow, hsz]
    omega
  · intro k hk
    show (grow (putRowK rgVals 3 (Sort.ahead w n) blk 0 d) os).heap[k]? = _
    rw [heap_grow_old _ _ (by rw [hsz]; omega)]
    simp only [putRowK, putRow, mapBlock, Sort.ahead, Array.getElem?_modify]
    rw [if_neg (by omega)]
end Go.Proofs.YtlbgocgocanloaaGreatDoor

/- fewest: how many beams explain a record at least. -/
namespace Go.Proofs.YtlbgocgocanloaaGreatDoor
open Go.RowKit
theorem run_eql94_nil (n c : Nat) (W : World) : Sem.run Tryz.prog (binOp BinOp.eql 68 (.slice none n c) (.slice none 0 0)) W = .ok (.bool true) W := by kernel_rfl
theorem run_eql94_row (a : Addr) (n c : Nat) (W : World) : Sem.run Tryz.prog (binOp BinOp.eql 68 (.slice (some a) n c) (.slice none 0 0)) W = .ok (.bool false) W := by kernel_rfl
def RgsPost (w : World) (l : List Rg) (n : Nat) (e : Ending) (w' : World) : Prop :=
  ∃ A c, e = .returned (.slice A n c) ∧ w'.ownsRow w.heap.size 148 3 (.slice A n c) n (rgCells l) ∧ Below w.heap.size w w'
set_option maxHeartbeats 2000000 in
theorem CloneRg_any (w : World) (B : Nat) (A : Option Addr) (n c : Nat) (l : List Rg) (hl : l.length = n) (hn : n ≤ 1000) (h : Rd w B A (rgCells l)) (hB : B ≤ w.heap.size) : Calls Tryz.prog 109 #[.slice A n c] w (RgsPost w l n) := by
  cases A with
  | none =>
    have hl0 : l = [] := by
      cases l with
      | nil => rfl
      | cons x l =>
        obtain ⟨b, off, he, _⟩ := h 0 _ (rgCells_at (x :: l) 0 x rfl).1
        cases he
    subst hl0
    obtain rfl : 0 = n := hl
    have q := fun W => run_eql94_nil 0 c W
    clear h
    go_enter Tryz.func109, Tryz.ntmps109
    go_wp2
    go_ret
    exact ⟨none, 0, rfl, ⟨rfl, .inl ⟨rfl, rfl⟩⟩, Below.refl _ _⟩
  | some a =>
    obtain ⟨i1, hi1, hy0, hy1, hy2⟩ := info_parts info148
    have q := fun W => run_eql94_row a n c W
    have HL := Lib.hid hl
    have h' := h.below (((Below.refl _ _).alloc (Nat.le_refl _) (.cells #[] 148) : Below w.heap.size w (w.alloc (.cells #[] 148))).mono hB)
    have hb0 : Below w.heap.size w (w.alloc (.cells #[] 148)) := (Below.refl _ _).alloc (Nat.le_refl _) _
    clear hl
    go_enter Tryz.func109, Tryz.ntmps109
    go_wp2_with (at_builtin; refine stp ?_)
    unfold Stp
    refine wpList_append_copy _ rfl _ _ 68 rfl w.heap.size 148 i1 _ 3 24 Tryz.underlying68 hi1 hy0 hy1 hy2 rfl (by omega) w.heap.size rfl (by rw [heapq_alloc, if_pos rfl]) (Nat.le_refl _) B (some a) n c (rgCells l) rfl (by rw [rgCells_len, HL.out]) h' (rgCells_one l) (by simp only [maxLen]; omega) (by omega) (by simp) ?_
    intro g cap w1 hown hgrow _
    have hb1 : Below w.heap.size w w1 := hb0.grown hgrow (by simp) (fun k hk => by rw [← Option.some.inj hk]; exact Nat.le_refl _)
    have HR := Lib.hid hown
    have HB := Lib.hid hb1
    clear hown hgrow hb0 hb1 h h'
    go_wp2
    go_ret
    exact ⟨_, _, rfl, HR.out, HB.out⟩
theorem insRg_none (w : World) : Calls Tryz.prog 176 #[.slice none 0 0, .int .i64 0, .int .i64 0, .func (.func 111) #[] #[]] w fun e w' => e = .returned (.tuple #[]) ∧ w' = w := by
  go_enter Tryz.func176, Tryz.ntmps176
  go_wp2
  refine wp_loop_rounds 1 ?_
  rw [rounds_succ]
  go_wp2
  go_end0
  exact ⟨rfl, rfl⟩
theorem pdqRg_none (lim : Int) (w : World) : Calls Tryz.prog 141 #[.slice none 0 0, .int .i64 0, .int .i64 0, .int .i64 lim, .func (.func 111) #[] #[]] w fun e w' => e = .returned (.tuple #[]) ∧ w' = w := by
  have hi := fun W => insRg_none W
  go_enter Tryz.func141, Tryz.ntmps141
  go_wp2
  refine wp_loop_rounds 1 ?_
  rw [rounds_succ]
  go_wp2_with (go_at_call 176; refine (hi _).mono ?_; rintro e w' ⟨rfl, rfl⟩)
  (try simp only [Exit.inBlock, Exit.then]); refine bodyPost_ret (results_none rfl _ _ _) rfl ?_
  exact ⟨rfl, rfl⟩
theorem SortRg_none (w : World) : Calls Tryz.prog 110 #[.slice none 0 0, .func (.func 111) #[] #[]] w fun e w' => e = .returned (.tuple #[]) ∧ w' = w := by
  have hp := fun lim W => pdqRg_none lim W
  have hl := fun W => bits_small 0 W (by omega)
  go_enter Tryz.func110, Tryz.ntmps110
  go_wp2_with (first | (go_at_call 118; refine (hl _).mono ?_; rintro e w' ⟨⟨l, rfl⟩, rfl⟩) | (go_at_call 141; refine (hp _ _).mono ?_; rintro e w' ⟨rfl, rfl⟩))
  go_end0
  exact ⟨rfl, rfl⟩
/-- readings of the call's own sorted, nil or not -/
def SortedRd (w : World) (K : Nat) (A : Option Addr) (l : List Rg) (n : Nat) (e : Ending) (w' : World) : Prop :=
  e = .returned (.tuple #[]) ∧ ∃ m : List Rg, (∀ r, r ∈ m ↔ r ∈ l) ∧ m.length = n ∧ m.Pairwise (fun a b => a.2.1 ≤ b.2.1) ∧ Rd w' w'.heap.size A (rgCells m) ∧ Below K w w'
theorem SortRg_any (w : World) (K : Nat) (A : Option Addr) (n c : Nat) (l : List Rg) (h : w.ownsRow K 148 3 (.slice A n c) n (rgCells l)) (hl : l.length = n) (hn : n ≤ 12) (hK : K ≤ w.heap.size) :
    Calls Tryz.prog 110 #[.slice A n c, .func (.func 111) #[] #[]] w (SortedRd w K A l n) := by
  rcases h.2 with ⟨h1, h2⟩ | ⟨g, cap, cur, h1, h2, h3, _⟩
  · simp only [Value.slice.injEq] at h1
    obtain ⟨rfl, rfl, rfl⟩ := h1
    refine (SortRg_none w).mono ?_
    rintro e w' ⟨rfl, rfl⟩
    have hl0 := List.eq_nil_of_length_eq_zero hl
    subst hl0
    exact ⟨rfl, [], fun r => Iff.rfl, rfl, .nil, fun k u hk => by simp [rgCells] at hk, Below.refl _ _⟩
  · simp only [Value.slice.injEq] at h1
    obtain ⟨rfl, _, rfl⟩ := h1
    subst hl
    refine (SortRg_own w K g c l h hn).mono ?_
    rintro e w' ⟨rfl, m, m1, m2, m3, m4, m5⟩
    have hg := lt_of_block h3
    refine ⟨rfl, m, m1, m2, m3, fun k u hk => ⟨g, 0, rfl, Nat.lt_of_lt_of_le hg m5.size, by rw [Nat.zero_add]; exact m4 k u hk⟩, m5.mono h2⟩
end Go.Proofs.YtlbgocgocanloaaGreatDoor

/- fewest: the walk. -/
namespace Go.Proofs.YtlbgocgocanloaaGreatDoor
open Go.RowKit
def fewV : Option Nat → Int
  | none => 0
  | some k => (k : Int)
def FewOutPost (w : World) (o : Option Nat) (e : Ending) (w' : World) : Prop := e = .returned (.tuple #[.int .i64 (fewV o), .bool o.isSome]) ∧ Below w.heap.size w w'
def FewLoop (w0 : World) (S : List Int) (m : List Rg) (n : Nat) (F : Option Nat) (u6 u7 u22 : Value) (wr : World) : Prop :=
  ∃ (k c : Nat) (last : Int), k ≤ n ∧ c ≤ k ∧ u22 = .int .i64 k ∧ u6 = .int .i64 c ∧ u7 = .int .i64 last ∧ fewGo S c last (m.drop k) = F ∧ Below w0.heap.size w0 wr
def EndLoop (wq : World) (f td : Int) (S : List Int) (E : Int) (u10 u37 : Value) (wr : World) : Prop :=
  ∃ (j : Nat) (e : Int), j ≤ S.length ∧ u37 = .int .i64 j ∧ u10 = .int .i64 e ∧ endGo f td e (S.drop j) = E ∧ Below wq.heap.size wq wr
set_option maxRecDepth 100000 in
set_option maxHeartbeats 8000000 in
theorem fewest_any (w : World) (B bm : Nat) (A : Option Addr) (n c : Nat) (l : List Rg) (hl : l.length = n) (h : Rd w B A (rgCells l)) (hB : B ≤ w.heap.size) (hn : n ≤ 12) (hbm : bm ≤ 40) (ok : ∀ r ∈ l, 0 ≤ r.1 ∧ r.1 ≤ r.2.1) :
    Calls Tryz.prog 75 #[.agg #[.int .i64 bm, .slice A n c]] w (FewOutPost w (fewM (suspK l bm) l)) := by
  have hb0 : Below w.heap.size w (w.alloc (.cells #[.int .i64 (bm : Int), .slice A n c] 70)) := (Below.refl _ _).alloc (Nat.le_refl _) _
  have h0 := h.below (hb0.mono hB)
  have k0 : (w.alloc (.cells #[.int .i64 (bm : Int), .slice A n c] 70)).heap[w.heap.size]? = some (.cells #[.int .i64 (bm : Int), .slice A n c] 70 (0, 0)) := by rw [heapq_alloc, if_pos rfl]
  have c0 : (w.alloc (.cells #[.int .i64 (bm : Int), .slice A n c] 70)).cell? ⟨w.heap.size, 0, none⟩ = some (.int .i64 (bm : Int)) := (cell_of_row _ _ 0 _ _ _ k0).trans rfl
  have c1 : (w.alloc (.cells #[.int .i64 (bm : Int), .slice A n c] 70)).cell? ⟨w.heap.size, 1, none⟩ = some (.slice A n c) := (cell_of_row _ _ 1 _ _ _ k0).trans rfl
  have hs0 : w.heap.size ≤ (w.alloc (.cells #[.int .i64 (bm : Int), .slice A n c] 70)).heap.size := hb0.size
  have hB0 := Nat.le_trans hB hs0
  have HL := Lib.hid hl
  have HB := Lib.hid hb0
  have hS40 : (suspK l bm).length ≤ 40 := Nat.le_trans (suspK_len l bm) hbm
  have hord := fun (m : List Rg) (h1 : ∀ r, r ∈ m ↔ r ∈ l) (h2 : m.Pairwise fun a b => a.2.1 ≤ b.2.1) => few_order (suspK_sorted l bm) (fun s hs => (suspK_in s hs).1) h1 h2 ok
  obtain ⟨F, hF⟩ : ∃ F, fewM (suspK l bm) l = F := ⟨_, rfl⟩
  rw [hF] at hord ⊢
  have HORD := Lib.hid hord
  clear h hl hb0 k0 hord hF
  go_enter Tryz.func75, Tryz.ntmps75
  go_upto_region 1 with (fail)
  generalize w.alloc (.cells #[.int .i64 (bm : Int), .slice A n c] 70) = w0 at *
  have C00 := Lib.hid c0
  have C11 := Lib.hid c1
  have H00 := Lib.hid h0
  have HB0 := Lib.hid HB.out
  have CL := CloneRg_any w0 B A n c l HL.out (by omega) h0 hB0
  go_upto_region 2 with (go_at_call 109; refine CL.mono ?_; rintro e w1 ⟨A1, c1', rfl, hown, hb1⟩)
  have SO := SortRg_any w1 w0.heap.size A1 n c1' l hown HL.out hn hb1.size
  replace c0 := kept hb1 c0
  replace c1 := kept hb1 c1
  have hs1 := hb1.size
  have HB1 := Lib.hid hb1
  clear CL hown hb1
  go_upto_region 3 with (go_at_call 110; refine SO.mono ?_; rintro e w2 ⟨rfl, m, m1, m2, m3, m4, hb2'⟩)
  have hb2 : Below w0.heap.size w0 w2 := HB1.out.trans hb2'
  clear hb2' HB1
  replace c0 := keptB hb2 (p := ⟨w.heap.size, 0, none⟩) (show w.heap.size < w0.heap.size from by have := lt_of_cell C00.out; exact this) C00.out
  replace c1 := keptB hb2 (p := ⟨w.heap.size, 1, none⟩) (show w.heap.size < w0.heap.size from by have := lt_of_cell C00.out; exact this) C11.out
  replace h0 := H00.out.below (hb2.mono hB0)
  replace HB := Lib.hid (HB0.out.trans (hb2.mono hs0))
  have hs2 : w.heap.size ≤ w2.heap.size := Nat.le_trans hs0 hb2.size
  have hB2 : B ≤ w2.heap.size := Nat.le_trans hB0 hb2.size
  have HORD2 := Lib.hid (HORD.out m m1 m3)
  have HM := Lib.hid m2
  clear SO m1 m2 m3 hb2 HORD hs1
  have SU := suspects_any w2 B bm A n c l HL.out h0 hB2 (by omega) hbm
  generalize suspK l bm = S at *
  go_upto_region 4 with (go_at_call 76; refine SU.mono ?_; rintro e w3 ⟨A3, c3, rfl, hS, hb3⟩)
  have hm0 := (m4.below hb3).mono hb3.size
  replace HB := Lib.hid (HB.out.trans (hb3.mono hs2))
  have hs3 := Nat.le_trans hs2 hb3.size
  clear SU c0 c1 h0 m4 hb3 hB2
  go_wp2
  go_loopw [6, 7, 22] (fun u6 u7 u22 wr => FewLoop w3 S m n F u6 u7 u22 wr) (fun _ _ u22 _ => n - (intOf u22).toNat)
  case atStart => exact ⟨0, 0, -1, Nat.zero_le _, Nat.zero_le _, rfl, rfl, rfl, by rw [List.drop_zero]; exact HORD2.out, Below.refl _ _⟩
  case round =>
    obtain ⟨k, cn, last, hk, hck, rfl, rfl, rfl, he, hb⟩ := hrel
    have HE := Lib.hid he
    have HBK := Lib.hid hb
    have hsk := hb.size
    have hmr := (hm0.below hb).mono hb.size
    have hSr := (hS.below hb).mono hb.size
    clear he hb
    by_cases hlt : k < n
    · have hkl : k < m.length := by rw [HM.out]; exact hlt
      obtain ⟨ev, hev⟩ : ∃ ev, m[k]? = some ev := ⟨_, List.getElem?_eq_getElem hkl⟩
      obtain ⟨z0, z1, z2⟩ := rgCells_at m k ev hev
      obtain ⟨bb, off, rfl, hbB, e0, e1, e2⟩ := hmr.at3 z0 z1 z2
      have HS := Lib.hid (drop_cons' hev)
      obtain ⟨f, td, wg⟩ := ev
      simp only at e0 e1 e2
      have hba : Below wr.heap.size wr (wr.alloc (.cells #[.int .i64 f, .int .i64 td, .bool wg] 148)) := (Below.refl _ _).alloc (Nat.le_refl _) _
      have kb : (wr.alloc (.cells #[.int .i64 f, .int .i64 td, .bool wg] 148)).heap[wr.heap.size]? = some (.cells #[.int .i64 f, .int .i64 td, .bool wg] 148 (0, 0)) := by rw [heapq_alloc, if_pos rfl]
      have t0 := (cell_of_row _ _ 0 _ _ _ kb).trans (by rfl : _ = some (.int .i64 f))
      have t1 := (cell_of_row _ _ 1 _ _ _ kb).trans (by rfl : _ = some (.int .i64 td))
      have t2 := (cell_of_row _ _ 2 _ _ _ kb).trans (by rfl : _ = some (.bool wg))
      have hSa := (hSr.below hba).mono hba.size
      have HBA := Lib.hid (HBK.out.trans (hba.mono hsk))
      have hsa := Nat.le_trans hsk hba.size
      clear kb z0 z1 z2 hev hkl hmr hSr
      go_upto_region 8 with (fail)
      clear hba e0 e1 e2
      generalize wr.alloc (.cells #[.int .i64 f, .int .i64 td, .bool wg] 148) = wa at *
      generalize wr.heap.size = ga at *
      cases wg with
      | false =>
        have HN : Hid (fewGo S cn last (m.drop (k + 1)) = F) := by
          have := HE.out
          rw [HS.out, fewGo, if_pos (.inl rfl)] at this
          exact this
        go_wp2
        go_roundw
        case rel => exact ⟨k + 1, cn, last, by omega, by omega, by go_num, rfl, rfl, HN.out, HBA.out⟩
        case measure => simp [intOf]; omega
      | true =>
        by_cases hfl : f ≤ last
        · have HN : Hid (fewGo S cn last (m.drop (k + 1)) = F) := by
            have := HE.out
            rw [HS.out, fewGo, if_pos (.inr hfl)] at this
            exact this
          go_wp2
          go_roundw
          case rel => exact ⟨k + 1, cn, last, by omega, by omega, by go_num, rfl, rfl, HN.out, HBA.out⟩
          case measure => simp [intOf]; omega
        · obtain ⟨E, hE⟩ : ∃ E, endGo f td (-1) S = E := ⟨_, rfl⟩
          have HN : Hid ((if E < 0 then none else fewGo S (cn + 1) E (m.drop (k + 1))) = F) := by
            have := HE.out
            rw [HS.out, fewGo, if_neg (by simp; omega), hE] at this
            exact this
          have HEE := Lib.hid hE
          clear hE HE
          obtain ⟨wo, hwo⟩ : ∃ wo, wo = wa := ⟨_, rfl⟩
          subst hwo
          have T0 := Lib.hid t0
          have T1 := Lib.hid t1
          have hf2 : last < f := by omega
          go_wp2
          go_loopw [10, 37] (fun u10 u37 wr => EndLoop wo f td S E u10 u37 wr) (fun _ u37 _ => S.length - (intOf u37).toNat)
          case atStart => exact ⟨0, -1, Nat.zero_le _, rfl, rfl, by rw [List.drop_zero]; exact HEE.out, Below.refl _ _⟩
          case round =>
            clear t0 t1 t2
            obtain ⟨j, ee, hj, rfl, rfl, hg, hbj⟩ := hrel
            have HG := Lib.hid hg
            have HBJ := Lib.hid hbj
            have t0 := kept hbj T0.out
            have t1 := kept hbj T1.out
            have hSj := hSa.below hbj
            have hsj := hbj.size
            clear hg hbj
            by_cases hlj : j < S.length
            · obtain ⟨b3, o3, rfl, _, d0⟩ := hSj.at_ (intCells_at S j hlj)
              have HSJ := Lib.hid (drop_at S 0 j hlj)
              generalize S[j]?.getD 0 = x at *
              cases hw : withinB x f td with
              | false =>
                have HG2 : Hid (endGo f td ee (S.drop (j + 1)) = E) := by
                  have := HG.out
                  rw [HSJ.out, endGo, hw, if_neg (by decide)] at this
                  exact this
                have WV := fun W => within_val x f td false hw W
                clear hw
                go_wp2_with (go_at_call 41; refine (WV _).mono ?_; rintro e w' ⟨rfl, rfl⟩)
                go_roundw
                case rel => exact ⟨j + 1, ee, by omega, by go_num, rfl, HG2.out, HBJ.out⟩
                case measure => simp [intOf]; omega
              | true =>
                have HG2 : Hid (endGo f td x (S.drop (j + 1)) = E) := by
                  have := HG.out
                  rw [HSJ.out, endGo, hw, if_pos rfl] at this
                  exact this
                have WV := fun W => within_val x f td true hw W
                clear hw
                go_wp2_with (go_at_call 41; refine (WV _).mono ?_; rintro e w' ⟨rfl, rfl⟩)
                go_roundw
                case rel => exact ⟨j + 1, x, by omega, by go_num, rfl, HG2.out, HBJ.out⟩
                case measure => simp [intOf]; omega
            · have HEQ : Hid (ee = E) := by
                have := HG.out
                rw [List.drop_eq_nil_iff.2 (by omega)] at this
                exact this
              by_cases he0 : ee < 0
              · have HF : Hid (F = none) := by
                  have := HN.out
                  rw [← HEQ.out, if_pos he0] at this
                  exact this.symm
                have HFIN := Lib.hid (HB.out.trans ((HBA.out.trans (HBJ.out.mono hsa)).mono hs3))
                go_wp2
                go_ret2
                exact ⟨by rw [HF.out]; rfl, HFIN.out⟩
              · have HF : Hid (fewGo S (cn + 1) ee (m.drop (k + 1)) = F) := by
                  have := HN.out
                  rw [← HEQ.out, if_neg he0] at this
                  exact this
                have HBN := Lib.hid (HBA.out.trans (HBJ.out.mono hsa))
                clear hSj
                go_wp2
                go_roundw
                case rel => exact ⟨k + 1, cn + 1, ee, by omega, by omega, by go_num, by go_num, rfl, HF.out, HBN.out⟩
                case measure => simp [intOf]; omega
    · have HF : Hid (F = some cn) := by
        have := HE.out
        rw [List.drop_eq_nil_iff.2 (by rw [HM.out]; omega), fewGo] at this
        exact this.symm
      go_wp2
      go_ret2
      exact ⟨by rw [HF.out]; rfl, HB.out.trans (HBK.out.mono hs3)⟩
end Go.Proofs.YtlbgocgocanloaaGreatDoor
