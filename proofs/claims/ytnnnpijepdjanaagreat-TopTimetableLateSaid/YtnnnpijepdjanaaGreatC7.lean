/- Parse, of the fixed text. -/
import Derived.Test.YtnnnpijepdjanaaGreatC0
import Derived.Test.YtnnnpijepdjanaaGreatC6
import Derived.Test.YtnnnpijepdjanaaGreatD0
import Derived.Test.YtnnnpijepdjanaaGreatD1
namespace Go.Proofs.YtnnnpijepdjanaaGreat
open Go.RowKit

theorem rowOwnCells {w : World} {B e size n : Nat} {v : Value} {xs : List Value} (h : w.ownsRow B e size v n xs) : ∃ A c, v = .slice A n c := rowForm h
theorem rd_take {w : World} {B : Nat} {A : Option Addr} {xs : List Value} (h : Rd w B A xs) (n : Nat) : Rd w B A (xs.take n) := fun k u hk => h k u (by
  rw [List.getElem?_take] at hk
  split at hk
  · exact hk
  · simp at hk)
/-- what stands behind k lines: the net under way, its block being the first of the call's own -/
def PaRel (w6 : World) (k : Nat) (u8 u9 : Value) (wr : World) : Prop :=
  ∃ re ra : Value, wr.heap[w6.heap.size]? = some (.cells #[re, ra] 25 (0, 0)) ∧ wr.ownsRow (w6.heap.size + 1) 9 1 re (min k 4) (strCells (exEvs.take k)) ∧ wr.ownsRow (w6.heap.size + 1) 43 6 ra (k - 4) (actCells (exActs.take (k - 4))) ∧
    (k ≤ 4 → u9 = .slice none 0 0 ∧ ∃ l8, wr.ownsRow (w6.heap.size + 1) 3 1 u8 k l8) ∧ (4 ≤ k → ∃ l9, wr.ownsRow (w6.heap.size + 1) 3 1 u9 (k - 4) l9) ∧ Below w6.heap.size w6 wr
theorem ex_lineE : ∀ k < 4, splitF (exLines.getD k ⟨#[]⟩) = [(wEvent, 1), (exEvs.getD k ⟨#[]⟩, 7)] ∧ (exEvs.getD k ⟨#[]⟩).size = 1 ∧ nameB (exEvs.getD k ⟨#[]⟩) = true := by decide +kernel
theorem words_block {w : World} {B e size n c : Nat} {A : Option Addr} {xs : List Value} (h : w.ownsRow B e size (.slice A n c) n xs) (hn : 0 < n) : ∃ g, A = some ⟨g, 0, none⟩ ∧ ∃ cur : Array Value, w.heap[g]? = some (.cells cur e (0, 0)) ∧ ∀ (j : Nat) (u : Value), xs[j]? = some u → cur[j]? = some u := by
  have hA : ∃ g, A = some ⟨g, 0, none⟩ := by
    rcases h.2 with ⟨h1, h2⟩ | ⟨g, cap, cur, h1, _⟩
    · omega
    · simp only [Value.slice.injEq] at h1
      exact ⟨g, h1.1⟩
  obtain ⟨g, rfl⟩ := hA
  obtain ⟨_, _, cur, hcur⟩ := ownBlk h rfl
  refine ⟨g, rfl, cur, hcur, fun j u hj => ?_⟩
  have := h.cellAt j (by rw [← h.1]; exact (List.getElem?_eq_some_iff.1 hj).1)
  rw [hj, cell_of_row _ _ j _ _ _ hcur] at this
  exact this
theorem info3' : (Tryz.prog.info? 3).map (fun i => (i.zero, i.size, i.bytes)) = some (some (.int .i64 0), 1, 8) := info3
theorem cells6w {W : World} {r t : Nat} {a0 a1 a2 a3 a4 a5 : Value} (h : W.heap[r]? = some (.cells #[a0, a1, a2, a3, a4, a5] t (0, 0))) :
    W.cell? ⟨r, 0, none⟩ = some a0 ∧ W.cell? ⟨r, 1, none⟩ = some a1 ∧ W.cell? ⟨r, 2, none⟩ = some a2 ∧ W.cell? ⟨r, 3, none⟩ = some a3 ∧ W.cell? ⟨r, 4, none⟩ = some a4 ∧ W.cell? ⟨r, 5, none⟩ = some a5 := by
  refine ⟨?_, ?_, ?_, ?_, ?_, ?_⟩ <;> rw [cell_of_row _ _ _ _ _ _ h] <;> rfl
theorem act_snoc {j : Nat} {a : Act} (h : exActs[j]? = some a) : actCells (exActs.take j) ++ actVals a = actCells (exActs.take (j + 1)) := by
  rw [List.take_add_one, h, actCells, actCells, List.flatMap_append]
  simp
theorem ex_formE (W : World) : Sem.run Tryz.prog (Instr.index 9 (.string formE) (.int .i64 0)) W = .ok (.int .u8 110) W := run_index9 formE 0 (by decide +kernel) W
theorem ex_sizeE : (formE.size : Int) = 1 := by decide +kernel
theorem ex_isE : (wEvent.toList == [101, 118, 101, 110, 116]) = true := by decide +kernel
theorem ex_isC : (wEvent.toList == [99, 111, 110, 110, 101, 99, 116]) = false := by decide +kernel
theorem ex_kindE : numT kindW wEvent = -1 := by decide +kernel
theorem own_put {W : World} {B e size n x j : Nat} {t : TypeId} {v u : Value} {xs : List Value} {c : Array Value} (h : W.ownsRow B e size v n xs) (hk : W.heap[x]? = some (.cells c t (0, 0))) (ht : t ≠ e) :
    (W.setCell ⟨x, j, none⟩ u).ownsRow B e size v n xs :=
  own_keep h fun b cur hc => by rw [heapq_set, if_neg (fun e9 => by subst e9; exact cells_ne hk ht hc)]
theorem blk_put {W : World} {x y j : Nat} {t : TypeId} {u : Value} {c : Array Value} (hk : W.heap[x]? = some (.cells c t (0, 0))) : ∃ c', (W.setCell ⟨y, j, none⟩ u).heap[x]? = some (.cells c' t (0, 0)) := by
  rw [heapq_set]
  by_cases h : x = y
  · subst h
    rw [if_pos rfl, hk]
    exact ⟨_, by simp [objSet_cells]; rfl⟩
  · rw [if_neg h]
    exact ⟨c, hk⟩
theorem own_put4 {W : World} {B n n' x : Nat} {v v' u0 u1 u2 u3 : Value} {xs xs' : List Value} {c c' : Array Value} (h : W.ownsRow B 9 1 v n xs) (h' : W.ownsRow B 43 6 v' n' xs') (hk : W.heap[x]? = some (.cells c 25 (0, 0))) (hk' : W.heap[x + 1]? = some (.cells c' 86 (0, 0))) :
    ((((W.setCell ⟨x, 0, none⟩ u0).setCell ⟨x, 1, none⟩ u1).setCell ⟨x + 1, 0, none⟩ u2).setCell ⟨x + 1, 1, none⟩ u3).ownsRow B 9 1 v n xs ∧
    ((((W.setCell ⟨x, 0, none⟩ u0).setCell ⟨x, 1, none⟩ u1).setCell ⟨x + 1, 0, none⟩ u2).setCell ⟨x + 1, 1, none⟩ u3).ownsRow B 43 6 v' n' xs' := by
  obtain ⟨d1, k1⟩ := blk_put (y := x) (j := 0) (u := u0) hk
  obtain ⟨d2, k2⟩ := blk_put (y := x) (j := 0) (u := u0) hk'
  obtain ⟨d3, k3⟩ := blk_put (y := x) (j := 1) (u := u1) k2
  obtain ⟨d4, k4⟩ := blk_put (y := x + 1) (j := 0) (u := u2) k3
  exact ⟨own_put (own_put (own_put (own_put h hk (by decide)) k1 (by decide)) k3 (by decide)) k4 (by decide),
    own_put (own_put (own_put (own_put h' hk (by decide)) k1 (by decide)) k3 (by decide)) k4 (by decide)⟩
theorem put4_below {W w : World} {x : Nat} {u0 u1 u2 u3 : Value} (h : Below x w W) : Below x w ((((W.setCell ⟨x, 0, none⟩ u0).setCell ⟨x, 1, none⟩ u1).setCell ⟨x + 1, 0, none⟩ u2).setCell ⟨x + 1, 1, none⟩ u3) :=
  (((h.setCell (p := ⟨x, 0, none⟩) (Nat.le_refl x) _).setCell (p := ⟨x, 1, none⟩) (Nat.le_refl x) _).setCell (p := ⟨x + 1, 0, none⟩) (Nat.le_add_right x 1) _).setCell (p := ⟨x + 1, 1, none⟩) (Nat.le_add_right x 1) _
def NetPost (w : World) (e : Ending) (w' : World) : Prop :=
  ∃ Ae ce Aa ca a b, e = .returned (.tuple #[netV Ae 4 ce Aa 4 ca, .agg #[.int .i64 a, .int .i64 b], .int .i64 0]) ∧ NetAt w' w'.heap.size Ae Aa 4 ce 4 exEvs exActs ∧ Below w.heap.size w w'
set_option maxRecDepth 100000 in
set_option maxHeartbeats 8000000 in
theorem Parse_ex (w : World) : Calls Tryz.prog 33 #[.string exText] w (NetPost w) := by
  obtain ⟨i1, hi1, hy0, hy1, hy2⟩ := info_parts info3
  have CU := fun W => Cut_any exText 10 (by rw [ex_size]; omega) W
  rw [ex_cut, show (exLines ++ [(⟨#[]⟩ : ByteArray)]).length = 9 from rfl] at CU
  have hsz : exText.size = 95 := ex_size
  have g0 : ¬ (60000 : Int) < (exText.size : Int) := by omega
  clear hsz
  generalize exText = tx at *
  go_enter Tryz.func33, Tryz.ntmps33
  go_upto_region 5 with (go_at_call 57; refine (CU _).mono ?_; rintro e w4 ⟨A6, c6, rfl, hc6, hrd6, hb4⟩)
  have hbA : Below w.heap.size w (((w.alloc (.cells #[.slice none 0 0, .slice none 0 0] 25)).alloc (.cells #[.int .i64 0, .int .i64 0] 86)).alloc (.cells #[.slice none 0 0, .slice none 0 0] 25)) :=
    ((((Below.refl _ _).alloc (Nat.le_refl _) _).alloc (Below.size ((Below.refl _ _).alloc (Nat.le_refl _) _)) _).alloc (Below.size (((Below.refl _ _).alloc (Nat.le_refl _) _).alloc (Below.size ((Below.refl _ _).alloc (Nat.le_refl _) _)) _)) _)
  have k2 : (((w.alloc (.cells #[.slice none 0 0, .slice none 0 0] 25)).alloc (.cells #[.int .i64 0, .int .i64 0] 86)).alloc (.cells #[.slice none 0 0, .slice none 0 0] 25)).heap[w.heap.size]? = some (.cells #[.slice none 0 0, .slice none 0 0] 25 (0, 0)) := by
    rw [heapq_alloc, if_neg (by simp; omega), heapq_alloc, if_neg (by simp), heapq_alloc, if_pos rfl]
  have k3 : (((w.alloc (.cells #[.slice none 0 0, .slice none 0 0] 25)).alloc (.cells #[.int .i64 0, .int .i64 0] 86)).alloc (.cells #[.slice none 0 0, .slice none 0 0] 25)).heap[w.heap.size + 1]? = some (.cells #[.int .i64 0, .int .i64 0] 86 (0, 0)) := by
    rw [heapq_alloc, if_neg (by simp), heapq_alloc, if_pos (by simp)]
  have HB := Lib.hid (hbA.trans (hb4.mono hbA.size))
  have hs := Nat.le_trans hbA.size hb4.size
  replace k2 := blk hb4 k2
  replace k3 := blk hb4 k3
  clear hb4 hbA CU g0
  have HRD := Lib.hid hrd6
  obtain ⟨b6, off6, hA6, hlt6, e8⟩ := hrd6 8 (.string ⟨#[]⟩) rfl
  subst hA6
  clear hrd6
  go_wp2
  have hs4 : w.heap.size ≤ w4.heap.size := hs
  go_loopw [8, 9, 10] (fun u8 u9 u10 wr => ∃ k : Nat, k ≤ 8 ∧ u10 = .int .i64 k ∧ PaRel w4 k u8 u9 wr) (fun _ _ u10 _ => 8 - (intOf u10).toNat)
  case atStart =>
    refine ⟨0, Nat.zero_le _, rfl, _, _, by rw [heapq_alloc, if_pos rfl], ⟨rfl, .inl ⟨rfl, rfl⟩⟩, ⟨rfl, .inl ⟨rfl, rfl⟩⟩, fun _ => ⟨rfl, [], rfl, .inl ⟨rfl, rfl⟩⟩, fun h => by omega, (Below.refl _ _).alloc (Nat.le_refl _) _⟩
  case round =>
    obtain ⟨k, hk, rfl, re, ra, hblk, hre, hra, h8, h9, hb⟩ := hrel
    by_cases hlt : k < 4
    · obtain ⟨hsp, hns, hnm⟩ := ex_lineE k hlt
      obtain ⟨s, hsq⟩ : ∃ s, exLines.getD k ⟨#[]⟩ = s := ⟨_, rfl⟩
      obtain ⟨nm, hnq⟩ : ∃ s, exEvs.getD k ⟨#[]⟩ = s := ⟨_, rfl⟩
      have hel : (strCells (exLines ++ [⟨#[]⟩]))[k]? = some (.string s) := by
        rw [← hsq]
        have : ∀ k < 4, (strCells (exLines ++ [⟨#[]⟩]))[k]? = some (.string (exLines.getD k ⟨#[]⟩)) := by
          intro k hk
          match k, hk with
          | 0, _ => rfl
          | 1, _ => rfl
          | 2, _ => rfl
          | 3, _ => rfl
        exact this k hlt
      have hne : exEvs[k]? = some nm := by
        rw [← hnq]
        have : ∀ k < 4, exEvs[k]? = some (exEvs.getD k ⟨#[]⟩) := by
          intro k hk
          match k, hk with
          | 0, _ => rfl
          | 1, _ => rfl
          | 2, _ => rfl
          | 3, _ => rfl
        exact this k hlt
      have hss : s.size ≤ 1000000 := by
        rw [← hsq]
        have : ∀ k < 4, (exLines.getD k ⟨#[]⟩).size ≤ 1000000 := by decide +kernel
        exact this k hlt
      rw [hsq] at hsp
      rw [hnq] at hsp hns hnm
      clear hsq hnq
      have SP := fun W => split_any s hss W
      rw [hsp] at SP
      obtain ⟨b7, off7, hA7, _, el⟩ := (HRD.out.below hb) k _ hel
      cases hA7
      clear hel hsp hss
      obtain ⟨rfl, l8, hown8⟩ := h8 (by omega)
      have HW := Lib.hid (And.intro hblk (And.intro hre (And.intro hra (And.intro hown8 hb))))
      have hszr := hb.size
      clear hblk hre hra h8 h9 hown8 hb
      have hk8 : (k : Int) < 8 := by omega
      go_upto_region 14 with (go_at_call 58; refine (SP _).mono ?_; rintro e w5 ⟨A7, c7, rfl, hown7, hb5⟩)
      have hrd7 := rd_own hown7
      have HOW7 := Lib.hid hown7
      clear hown7
      obtain ⟨b8, hA8, hlt8, cur8, hc8, u0, u1, u2, u3⟩ : ∃ b8, A7 = some ⟨b8, 0, none⟩ ∧ b8 < w5.heap.size ∧ ∃ cur8 : Array Value, w5.heap[b8]? = some (.cells cur8 116 (0, 0)) ∧ cur8[0]? = some (.string wEvent) ∧ cur8[1]? = some (.int .i64 1) ∧ cur8[2]? = some (.string nm) ∧ cur8[3]? = some (.int .i64 7) := by
        obtain ⟨b8, e8, c8, h8, h9⟩ := words_block HOW7.out (Nat.succ_pos 1)
        subst e8
        exact ⟨b8, rfl, (Array.getElem?_eq_some_iff.1 h8).1, c8, h8, h9 0 _ rfl, h9 1 _ rfl, h9 2 _ rfl, h9 3 _ rfl⟩
      subst hA8
      have v0 : w5.cell? ⟨b8, 0, none⟩ = some (.string wEvent) := (cell_of_row _ _ 0 _ _ _ hc8).trans u0
      have v1 : w5.cell? ⟨b8, 0 + 1, none⟩ = some (.int .i64 1) := (cell_of_row _ _ 1 _ _ _ hc8).trans u1
      have v2 : w5.cell? ⟨b8, 2, none⟩ = some (.string nm) := (cell_of_row _ _ 2 _ _ _ hc8).trans u2
      have v3 : w5.cell? ⟨b8, 3, none⟩ = some (.int .i64 7) := (cell_of_row _ _ 3 _ _ _ hc8).trans u3
      clear hrd7
      have x0 := fun x : Xt w5 => x.cell v0
      have x1 := fun x : Xt w5 => x.cell v1
      refine wp_region_eager [13] (fun w' => ∃ x : Xt w5, w' = x.1) (by kernel_rfl) ⟨⟨w5.drew, (Below.refl _ _).drew⟩, rfl⟩ ?_
      refine wpE_reads5 [0, 1, 2, 3, 4, 5, 6, 7, 8, 9, 10] 3 rfl (by kernel_rfl) ?_
      simp only [opsAt_nil, opsAt_cons, consOpt_some, List.getElem?_toArray, List.getElem?_cons_zero, List.getElem?_cons_succ]
      repeat (go_big_quiet_step (fail))
      refine wpQuiet_nil ?_
      have hbd : Below w5.heap.size w5 w5.drew := (Below.refl _ _).drew
      show wpE _ _ _ _ _ _ _ _ _ w5.drew
      clear x0 x1
      generalize w5.drew = wd at *
      refine wpE_one (i := 11) rfl (by kernel_rfl) rfl ?_
      unfold wpMid
      simp only [opsAt_nil, opsAt_cons, consOpt_some, List.getElem?_toArray, List.getElem?_cons_zero, List.getElem?_cons_succ]
      go_wp2
      refine onlyNormal_mk ⟨⟨⟨_, hbd.alloc hbd.size _⟩, rfl⟩, ?_⟩
      refine wpE_reads [12] 1 rfl (by kernel_rfl) ?_
      simp only [opsAt_nil, opsAt_cons, consOpt_some, List.getElem?_toArray, List.getElem?_cons_zero, List.getElem?_cons_succ]
      repeat (go_big_quiet_step (fail))
      refine wpQuiet_nil ?_
      refine wpE_tail rfl (by kernel_rfl) ?_
      simp only [opsAt_nil, opsAt_cons, consOpt_some, List.getElem?_toArray, List.getElem?_cons_zero, List.getElem?_cons_succ]
      go_wp2
      refine onlyNormal_mk ?_
      have hb7 := hbd.alloc hbd.size (.cells #[.int .i64 ((k : Int) + 1), .int .i64 1] 86)
      replace v2 := kept hb7 v2
      have hc8' := blk hb7 hc8
      clear hc8 u0 u1 u3
      have hbA := hb5.trans (hb7.mono hb5.size)
      clear hb5 hb7 hbd v0 v1 v3 SP el
      generalize wd.alloc (.cells #[.int .i64 ((k : Int) + 1), .int .i64 1] 86) = w7 at *
      generalize wd.heap.size = g13 at *
      have KW := fun W => kindWords_any W
      have FO := fun W => formOf_any wEvent true false ex_isE ex_isC W
      have NU := fun (W : World) (g : Nat) (h : Rd W W.heap.size (some ⟨g, 0, none⟩) (strCells kindW)) => numberOf_any (some ⟨g, 0, none⟩) 5 5 _ kindW wEvent W (by omega) rfl h
      rw [ex_kindE] at NU
      rw [if_pos rfl] at FO
      have ee := ex_isE
      generalize wEvent = ev at *
      go_upto_region 23 with (first | (go_at_call 60; refine (KW _).mono ?_; clear KW; rintro e w8 ⟨gk, rfl, hrdK, hb8⟩) | (go_at_call 59; refine (NU _ _ hrdK).mono ?_; clear NU; rintro e w' ⟨rfl, rfl⟩) | (go_at_call 61; refine (FO _).mono ?_; clear FO; rintro e w' ⟨rfl, rfl⟩))
      clear hrdK
      obtain ⟨hblk, hre, hra, hown8, hb⟩ := HW.out
      obtain ⟨Are, cre, rfl⟩ := rowForm hre
      have hbW := hbA.trans (hb8.mono hbA.size)
      have kB := blk hbW hblk
      have hrdE := (rd_own hre).below hbW
      have kp8 : ∀ (e : TypeId) (b : Nat) (cur : Array Value), wr.heap[b]? = some (Obj.cells cur e (0, 0)) → w8.heap[b]? = wr.heap[b]? := fun e b cur hc => hbW.block b (Array.getElem?_eq_some_iff.1 hc).1
      have HW8 := Lib.hid (And.intro (own_keep hre (kp8 9)) (And.intro (own_keep hra (kp8 43)) (And.intro (own_keep hown8 (kp8 3)) (hb.trans (hbW.mono hszr)))))
      clear kp8
      have v2' := kept hb8 v2
      have hc8w := blk hb8 hc8'
      have hs8 : w4.heap.size ≤ w8.heap.size := Nat.le_trans hszr hbW.size
      have HBW := Lib.hid hbW
      have hlE : (exEvs.take k).length = min k 4 := by rw [List.length_take]; rfl
      have RD : ∀ (W : World) (B : Nat) (_ : Rd W B Are (strCells (exEvs.take k))), Calls Tryz.prog 62 #[.int .u8 110, .string nm, .slice Are (min k 4) cre] W fun e w' => e = .returned (.tuple #[.int .i64 0, .int .i64 0]) ∧ Below W.heap.size W w' := fun (W : World) (B : Nat) (hr : Rd W B Are (strCells (exEvs.take k))) => read_any 110 nm Are (min k 4) cre B (exEvs.take k) W (by omega) (by omega) (by omega) hlE hr 0 (by rw [readE, if_pos rfl, hnm]; rfl)
      have hrs := hbW.size
      clear hbW hblk hre hra hown8 hb v2 hb8 hbA hlE
      go_loopw [16, 17] (fun u16 u17 wq => ∃ i : Nat, i ≤ 1 ∧ u17 = .int .i64 i ∧ (∃ l, wq.ownsRow w8.heap.size 3 1 u16 i l) ∧ Below w8.heap.size w8 wq) (fun _ u17 _ => 1 - (intOf u17).toNat)
      case atStart => exact ⟨0, Nat.zero_le _, rfl, ⟨[], rfl, .inl ⟨rfl, rfl⟩⟩, Below.refl _ _⟩
      case round =>
        obtain ⟨i, hi, rfl, ⟨l, hown⟩, hb⟩ := hrel
        have d1 := ex_formE
        have d2 := ex_sizeE
        generalize formE = fE at *
        by_cases hi0 : i < 1
        · obtain rfl : i = 0 := by omega
          have HOWN := Lib.hid hown
          obtain ⟨Au, cu, rfl⟩ := rowForm hown
          have HBQ := Lib.hid hb
          have hsq := hb.size
          obtain ⟨c0, c1⟩ := cells2 (blk hb kB)
          have v2q := kept hb v2'
          have hrdQ := hrdE.below (hb.mono hrs)
          clear hown hb
          go_upto_region 28 with (fail)
          have x0 := fun x : Xt wr => x.cell c0
          have x1 := fun x : Xt wr => x.cell v2q
          refine wp_region_eager [16] (fun w' => ∃ y : Xt wr, w' = y.1) (by kernel_rfl) ⟨⟨wr.drew, (Below.refl _ _).drew⟩, rfl⟩ ?_
          refine wpE_reads6 [0, 1, 2, 3, 4, 5, 6, 7, 8, 9, 10] 6 rfl (by kernel_rfl) ?_
          simp only [opsAt_nil, opsAt_cons, consOpt_some, List.getElem?_toArray, List.getElem?_cons_zero, List.getElem?_cons_succ]
          repeat (go_big_quiet_step (fail))
          refine wpQuiet_nil ?_
          have hbx : Below wr.heap.size wr wr.drew := (Below.refl _ _).drew
          show wpE _ _ _ _ _ _ _ _ _ wr.drew
          clear x0 x1
          have hrdX := hrdQ.below (hbx.mono (Nat.le_trans hrs hsq))
          generalize wr.drew = wx at *
          refine wpE_one (i := 11) rfl (by kernel_rfl) rfl ?_
          unfold wpMid
          simp only [opsAt_nil, opsAt_cons, consOpt_some, List.getElem?_toArray, List.getElem?_cons_zero, List.getElem?_cons_succ]
          go_wp2_with (go_at_call 62; refine (RD _ _ hrdX).mono ?_; rintro e wy ⟨rfl, hby⟩)
          refine onlyNormal_mk ⟨⟨⟨_, hbx.trans (hby.mono hbx.size)⟩, rfl⟩, ?_⟩
          refine wpE_reads [12, 13, 14, 15] 1 rfl (by kernel_rfl) ?_
          simp only [opsAt_nil, opsAt_cons, consOpt_some, List.getElem?_toArray, List.getElem?_cons_zero, List.getElem?_cons_succ]
          repeat (go_big_quiet_step (fail))
          refine wpQuiet_nil ?_
          refine wpE_tail rfl (by kernel_rfl) ?_
          simp only [opsAt_nil, opsAt_cons, consOpt_some, List.getElem?_toArray, List.getElem?_cons_zero, List.getElem?_cons_succ]
          go_wp2
          refine onlyNormal_mk ?_
          have hbz := hbx.trans (hby.mono hbx.size)
          have HOWZ := Lib.hid (own_keep HOWN.out fun b cur hc => hbz.block b (Array.getElem?_eq_some_iff.1 hc).1)
          have hsz9 : w8.heap.size ≤ wy.heap.size := Nat.le_trans hsq hbz.size
          have hba : Below wy.heap.size wy (wy.alloc (.cells #[.int .i64 0] 3)) := (Below.refl _ _).alloc (Nat.le_refl _) _
          have HBZ := Lib.hid (HBQ.out.trans (hbz.mono hsq))
          clear hbz hby hbx hrdX hrdQ v2q c0 c1 d1 HOWN HBQ
          go_wp2_with (at_builtin; refine stp ?_)
          unfold Stp
          refine wpList_append_lies _ rfl _ _ 26 rfl w8.heap.size 3 i1 _ 1 8 Tryz.underlying26 hi1 hy0 hy1 hy2 rfl (by omega) (.slice Au 0 cu) 0 l rfl (HOWZ.out.alloc _) ⟨wy.heap.size, 0, none⟩ 1 1 [.int .i64 0] rfl rfl (news1 (by simp)) (by simp [Value.oneCell']) (by omega) (by simp only [maxLen]; omega) (by omega) (by simp; omega) _ rfl ?_
          intro gg cap w9 hown1 hgrow hat hlt9
          have hb9 : Below w8.heap.size w8 w9 := (HBZ.out.trans (hba.mono hsz9)).grown hgrow (by have := hba.size; omega) (fun k hk => (ownBlk HOWZ.out hk).1)
          have HOWN1 := Lib.hid hown1
          have HB9 := Lib.hid hb9
          clear hown1 hgrow hat hlt9 hb9 HOWZ HBZ
          go_wp2
          go_roundw
          case rel => exact ⟨1, Nat.le_refl _, by go_num, ⟨_, HOWN1.out⟩, HB9.out⟩
          case measure => simp [intOf]
        · clear d1
          obtain rfl : i = 1 := by omega
          have kp9 : ∀ (e : TypeId) (b : Nat) (cur : Array Value), w8.heap[b]? = some (Obj.cells cur e (0, 0)) → wr.heap[b]? = w8.heap[b]? := fun e b cur hc => hb.block b (Array.getElem?_eq_some_iff.1 hc).1
          have HRE := Lib.hid (own_keep HW8.out.1 (kp9 9))
          have HRA := Lib.hid (own_keep HW8.out.2.1 (kp9 43))
          have HO8 := Lib.hid (own_keep HW8.out.2.2.1 (kp9 3))
          have HBX := Lib.hid (HW8.out.2.2.2.trans (hb.mono hs8))
          have KB := Lib.hid (blk hb kB)
          clear kp9 HW8
          have hgl : ¬ ((1 : Int) < (fE.size : Int)) := by omega
          go_upto_region 35 with (fail)
          have hc9 := blk hb hc8w
          obtain ⟨jI, hjI, hzI0, hzI1, hzI2⟩ := info_parts info9
          obtain ⟨A8, c8, rfl⟩ := rowForm HO8.out
          have PA : PaW w4 (.slice Are (min k 4) cre) (min k 4) (strCells (exEvs.take k)) ra (k - 4) (actCells (exActs.take (k - 4))) (.slice A8 k c8) k l8 wr wr := ⟨HRE.out, HRA.out, HO8.out, HBX.out, (Array.getElem?_eq_some_iff.1 KB.out).1, fun _ _ _ _ _ _ h => h⟩
          have HKB := Lib.hid KB.out
          have f0 := fun y' : KeepE wr => y'.cell (by decide) (by decide) (by decide) HKB.out (j := 0) rfl
          have f2 := fun y' : KeepE wr => y'.cell (by decide) (by decide) (by decide) hc9 (j := 2) u2
          haveI : Nonempty (KeepE wr) := ⟨⟨wr, fun _ _ _ _ _ _ h => h⟩⟩
          replace PA := PA.below ((Below.refl wr.heap.size wr).drew)
          refine wp_region_eager [14, 15] (fun w' => ∃ y' : KeepE wr, w' = y'.v) (by kernel_rfl) ⟨⟨_, PA.p⟩, rfl⟩ ?_
          refine wpE_reads5 [0, 1, 2, 3, 4, 5, 8, 9, 10] 7 rfl (by kernel_rfl) ?_
          simp only [opsAt_nil, opsAt_cons, consOpt_some, List.getElem?_toArray, List.getElem?_cons_zero, List.getElem?_cons_succ]
          repeat (go_big_quiet_step (fail))
          refine wpQuiet_nil ?_
          show wpE _ _ _ _ _ _ _ _ _ wr.drew
          clear f0 f2 hc9 HRE HRA HO8 HBX KB
          generalize wr.drew = wd0 at *
          refine wpE_two (i := 6) (k := 11) rfl (by kernel_rfl) rfl rfl ?_ ?_
          · unfold wpMid
            simp only [opsAt_nil, opsAt_cons, consOpt_some, List.getElem?_toArray, List.getElem?_cons_zero, List.getElem?_cons_succ]
            go_wp2
            replace PA := PA.alloc (.cells #[.string nm] 9)
            have C6 : (wd0.alloc (.cells #[.string nm] 9)).heap[wd0.heap.size]? = some (.cells #[.string nm] 9 (0, 0)) := by rw [heapq_alloc, if_pos rfl]
            refine onlyNormal_mk ⟨⟨⟨_, PA.p⟩, rfl⟩, ?_⟩
            generalize wd0.alloc (.cells #[.string nm] 9) = wd1 at *
            generalize wd0.heap.size = g6 at *
            refine wpE_two (i := 7) (k := 11) rfl (by kernel_rfl) rfl rfl ?_ ?_
            · unfold wpMid
              simp only [opsAt_nil, opsAt_cons, consOpt_some, List.getElem?_toArray, List.getElem?_cons_zero, List.getElem?_cons_succ]
              refine wpList_append_lies _ rfl _ _ 22 rfl (w4.heap.size + 1) 9 jI _ 1 16 Tryz.underlying22 hjI hzI0 hzI1 hzI2 rfl (by omega) (.slice Are (min k 4) cre) (min k 4) (strCells (exEvs.take k)) rfl PA.e ⟨g6, 0, none⟩ 1 1 [.string nm] rfl rfl (news_at C6) (by simp [Value.oneCell']) (by omega) (by simp only [maxLen]; omega) (by omega) PA.z _ rfl ?_
              intro gE cE wd2 hown1 hgrow _ _
              replace PA := PA.appE hown1 hgrow
              clear hown1 hgrow C6
              refine onlyNormal_mk ⟨⟨⟨_, PA.p⟩, rfl⟩, ?_⟩
              refine wpE_put (l' := [_, _, _, _, _, _, _, _, _, _, _, _, _, _, _, _, _, _, _, _, _, _, _, _, _, _, _, _, _, _, _, _, _, _, _, _, _, _, _, _, _, _, _, _, _, _, _, _, _, _, _, _, _, _, _, _, _, _, _, _, _, _, _, _, _, _, _, _, _, _, _, _, _, _, _, _, _, _, _, _, _, _, _, _, _, _, _, _, _, _, _, _, _, _, _, _, _, _, _, _, _, _, _, _, _, _, _, _, _, _, _, _, _, _, _, _, _, _, _, _, _, _, _, _, _, _, _, _, _, _, _, _, _, _, _, _, _, _, _, _, _, _, _, _, _, _, _, _, _, _, _, _, _, _, _, _, _, _, _, _, _, _, _, _, _, _, _, _, _, _, _, _, _, _, _, _, _, _, _, _, _, _, _, _, _, _, _, _, _, _, _, _, _, _, _, _, _, _, _, _, _, _, _, _, _, _, _, _, _, _, _, _, _, _, _, _, _, _, _, _, _, _, _, _, _, _, _, _, _, _, _, _, _, _, _, _, _, _, _, _, _, _, _, _, _, _, _]) rfl ?_
              refine wpE_reads [13] 4 rfl (by kernel_rfl) ?_
              simp only [opsAt_nil, opsAt_cons, consOpt_some, List.getElem?_toArray, List.getElem?_cons_zero, List.getElem?_cons_succ]
              repeat (go_big_quiet_step (fail))
              refine wpQuiet_nil ?_
              refine wpE_one (i := 11) rfl (by kernel_rfl) rfl ?_
              unfold wpMid
              simp only [opsAt_nil, opsAt_cons, consOpt_some, List.getElem?_toArray, List.getElem?_cons_zero, List.getElem?_cons_succ]
              go_wp2
              replace PA := PA.alloc (.cells #[.int .i64 ((k : Int) + 1)] 3)
              have C11 : (wd2.alloc (.cells #[.int .i64 ((k : Int) + 1)] 3)).heap[wd2.heap.size]? = some (.cells #[.int .i64 ((k : Int) + 1)] 3 (0, 0)) := by rw [heapq_alloc, if_pos rfl]
              refine onlyNormal_mk ⟨⟨⟨_, PA.p⟩, rfl⟩, ?_⟩
              generalize wd2.alloc (.cells #[.int .i64 ((k : Int) + 1)] 3) = wd3 at *
              generalize wd2.heap.size = g11 at *
              refine wpE_one (i := 12) rfl (by kernel_rfl) rfl ?_
              unfold wpMid
              simp only [opsAt_nil, opsAt_cons, consOpt_some, List.getElem?_toArray, List.getElem?_cons_zero, List.getElem?_cons_succ]
              refine wpList_append_lies _ rfl _ _ 26 rfl (w4.heap.size + 1) 3 i1 _ 1 8 Tryz.underlying26 hi1 hy0 hy1 hy2 rfl (by omega) (.slice A8 k c8) k l8 rfl PA.i ⟨g11, 0, none⟩ 1 1 [.int .i64 ((k : Int) + 1)] rfl rfl (news_at C11) (by simp [Value.oneCell']) (by omega) (by simp only [maxLen]; omega) (by omega) PA.z _ rfl ?_
              intro gI cI wd4 hown1 hgrow _ _
              replace PA := PA.appI hown1 hgrow
              clear hown1 hgrow C11
              refine onlyNormal_mk ⟨⟨⟨_, PA.p⟩, rfl⟩, ?_⟩
              refine wpE_tail rfl (by kernel_rfl) ?_
              simp only [opsAt_nil, opsAt_cons, consOpt_some, List.getElem?_toArray, List.getElem?_cons_zero, List.getElem?_cons_succ]
              have KF := PA.p _ _ _ (by decide) (by decide) (by decide) HKB.out
              have q0 := frozen_of_row wd4 w4.heap.size 0 _ _ KF
              have t0 := cell_of_row wd4 w4.heap.size 0 _ _ _ KF
              simp at t0
              obtain ⟨s1, s2, s3, s4, s5⟩ := PA.store KF 0 (.slice (some ⟨gE, 0, none⟩) (min k 4 + 1) cE)
              clear PA HKB KF
              go_wp2
              refine onlyNormal_mk ?_
              go_wp2
              go_roundw
              case rel =>
                have hm : min k 4 + 1 = min (k + 1) 4 := by omega
                have hk0 : k - 4 = 0 := by omega
                have hk1 : k + 1 - 4 = 0 := by omega
                have ht : strCells (exEvs.take k) ++ [.string nm] = strCells (exEvs.take (k + 1)) := by
                  rw [List.take_add_one, hne, strCells, strCells, List.map_append]
                  rfl
                rw [ht] at s1
                rw [hk0] at s2
                refine ⟨k + 1, by omega, by go_num, .slice (some ⟨gE, 0, none⟩) (min k 4 + 1) cE, ra, s5, ?_, ?_, ?_, ?_, s4⟩
                · exact hm ▸ s1
                · rw [hk1]
                  exact s2
                · exact fun _ => ⟨rfl, _, s3⟩
                · exact fun h9 => ⟨[], by rw [hk1]; exact ⟨rfl, .inl ⟨rfl, rfl⟩⟩⟩
              case measure => simp [intOf]; omega
            · unfold wpMid
              simp only [opsAt_nil, opsAt_cons, consOpt_some, List.getElem?_toArray, List.getElem?_cons_zero, List.getElem?_cons_succ]
              go_wp2
              replace PA := PA.alloc (.cells #[.int .i64 ((k : Int) + 1)] 3)
              replace C6 := blk ((Below.refl _ _).alloc (Nat.le_refl _) (.cells #[.int .i64 ((k : Int) + 1)] 3)) C6
              have C11 : (wd1.alloc (.cells #[.int .i64 ((k : Int) + 1)] 3)).heap[wd1.heap.size]? = some (.cells #[.int .i64 ((k : Int) + 1)] 3 (0, 0)) := by rw [heapq_alloc, if_pos rfl]
              refine onlyNormal_mk ⟨⟨⟨_, PA.p⟩, rfl⟩, ?_⟩
              generalize wd1.alloc (.cells #[.int .i64 ((k : Int) + 1)] 3) = wd2 at *
              generalize wd1.heap.size = g11 at *
              refine wpE_one (i := 7) rfl (by kernel_rfl) rfl ?_
              unfold wpMid
              simp only [opsAt_nil, opsAt_cons, consOpt_some, List.getElem?_toArray, List.getElem?_cons_zero, List.getElem?_cons_succ]
              refine wpList_append_lies _ rfl _ _ 22 rfl (w4.heap.size + 1) 9 jI _ 1 16 Tryz.underlying22 hjI hzI0 hzI1 hzI2 rfl (by omega) (.slice Are (min k 4) cre) (min k 4) (strCells (exEvs.take k)) rfl PA.e ⟨g6, 0, none⟩ 1 1 [.string nm] rfl rfl (news_at C6) (by simp [Value.oneCell']) (by omega) (by simp only [maxLen]; omega) (by omega) PA.z _ rfl ?_
              intro gE cE wd3 hown1 hgrow _ _
              replace C11 := blk_grown C11 hgrow (fun r hr => (ownBlk PA.e hr).2.2) (by decide)
              replace PA := PA.appE hown1 hgrow
              clear hown1 hgrow C6
              refine onlyNormal_mk ⟨⟨⟨_, PA.p⟩, rfl⟩, ?_⟩
              refine wpE_put (l' := [_, _, _, _, _, _, _, _, _, _, _, _, _, _, _, _, _, _, _, _, _, _, _, _, _, _, _, _, _, _, _, _, _, _, _, _, _, _, _, _, _, _, _, _, _, _, _, _, _, _, _, _, _, _, _, _, _, _, _, _, _, _, _, _, _, _, _, _, _, _, _, _, _, _, _, _, _, _, _, _, _, _, _, _, _, _, _, _, _, _, _, _, _, _, _, _, _, _, _, _, _, _, _, _, _, _, _, _, _, _, _, _, _, _, _, _, _, _, _, _, _, _, _, _, _, _, _, _, _, _, _, _, _, _, _, _, _, _, _, _, _, _, _, _, _, _, _, _, _, _, _, _, _, _, _, _, _, _, _, _, _, _, _, _, _, _, _, _, _, _, _, _, _, _, _, _, _, _, _, _, _, _, _, _, _, _, _, _, _, _, _, _, _, _, _, _, _, _, _, _, _, _, _, _, _, _, _, _, _, _, _, _, _, _, _, _, _, _, _, _, _, _, _, _, _, _, _, _, _, _, _, _, _, _, _, _, _, _, _, _, _, _, _, _, _, _, _]) rfl ?_
              refine wpE_reads [13] 3 rfl (by kernel_rfl) ?_
              simp only [opsAt_nil, opsAt_cons, consOpt_some, List.getElem?_toArray, List.getElem?_cons_zero, List.getElem?_cons_succ]
              repeat (go_big_quiet_step (fail))
              refine wpQuiet_nil ?_
              refine wpE_one (i := 12) rfl (by kernel_rfl) rfl ?_
              unfold wpMid
              simp only [opsAt_nil, opsAt_cons, consOpt_some, List.getElem?_toArray, List.getElem?_cons_zero, List.getElem?_cons_succ]
              refine wpList_append_lies _ rfl _ _ 26 rfl (w4.heap.size + 1) 3 i1 _ 1 8 Tryz.underlying26 hi1 hy0 hy1 hy2 rfl (by omega) (.slice A8 k c8) k l8 rfl PA.i ⟨g11, 0, none⟩ 1 1 [.int .i64 ((k : Int) + 1)] rfl rfl (news_at C11) (by simp [Value.oneCell']) (by omega) (by simp only [maxLen]; omega) (by omega) PA.z _ rfl ?_
              intro gI cI wd4 hown1 hgrow _ _
              replace PA := PA.appI hown1 hgrow
              clear hown1 hgrow C11
              refine onlyNormal_mk ⟨⟨⟨_, PA.p⟩, rfl⟩, ?_⟩
              refine wpE_tail rfl (by kernel_rfl) ?_
              simp only [opsAt_nil, opsAt_cons, consOpt_some, List.getElem?_toArray, List.getElem?_cons_zero, List.getElem?_cons_succ]
              have KF := PA.p _ _ _ (by decide) (by decide) (by decide) HKB.out
              have q0 := frozen_of_row wd4 w4.heap.size 0 _ _ KF
              have t0 := cell_of_row wd4 w4.heap.size 0 _ _ _ KF
              simp at t0
              obtain ⟨s1, s2, s3, s4, s5⟩ := PA.store KF 0 (.slice (some ⟨gE, 0, none⟩) (min k 4 + 1) cE)
              clear PA HKB KF
              go_wp2
              refine onlyNormal_mk ?_
              go_wp2
              go_roundw
              case rel =>
                have hm : min k 4 + 1 = min (k + 1) 4 := by omega
                have hk0 : k - 4 = 0 := by omega
                have hk1 : k + 1 - 4 = 0 := by omega
                have ht : strCells (exEvs.take k) ++ [.string nm] = strCells (exEvs.take (k + 1)) := by
                  rw [List.take_add_one, hne, strCells, strCells, List.map_append]
                  rfl
                rw [ht] at s1
                rw [hk0] at s2
                refine ⟨k + 1, by omega, by go_num, .slice (some ⟨gE, 0, none⟩) (min k 4 + 1) cE, ra, s5, ?_, ?_, ?_, ?_, s4⟩
                · exact hm ▸ s1
                · rw [hk1]
                  exact s2
                · exact fun _ => ⟨rfl, _, s3⟩
                · exact fun h9 => ⟨[], by rw [hk1]; exact ⟨rfl, .inl ⟨rfl, rfl⟩⟩⟩
              case measure => simp [intOf]; omega
          · unfold wpMid
            simp only [opsAt_nil, opsAt_cons, consOpt_some, List.getElem?_toArray, List.getElem?_cons_zero, List.getElem?_cons_succ]
            go_wp2
            replace PA := PA.alloc (.cells #[.int .i64 ((k : Int) + 1)] 3)
            have C11 : (wd0.alloc (.cells #[.int .i64 ((k : Int) + 1)] 3)).heap[wd0.heap.size]? = some (.cells #[.int .i64 ((k : Int) + 1)] 3 (0, 0)) := by rw [heapq_alloc, if_pos rfl]
            refine onlyNormal_mk ⟨⟨⟨_, PA.p⟩, rfl⟩, ?_⟩
            generalize wd0.alloc (.cells #[.int .i64 ((k : Int) + 1)] 3) = wd1 at *
            generalize wd0.heap.size = g11 at *
            refine wpE_one (i := 6) rfl (by kernel_rfl) rfl ?_
            unfold wpMid
            simp only [opsAt_nil, opsAt_cons, consOpt_some, List.getElem?_toArray, List.getElem?_cons_zero, List.getElem?_cons_succ]
            go_wp2
            replace PA := PA.alloc (.cells #[.string nm] 9)
            replace C11 := blk ((Below.refl _ _).alloc (Nat.le_refl _) (.cells #[.string nm] 9)) C11
            have C6 : (wd1.alloc (.cells #[.string nm] 9)).heap[wd1.heap.size]? = some (.cells #[.string nm] 9 (0, 0)) := by rw [heapq_alloc, if_pos rfl]
            refine onlyNormal_mk ⟨⟨⟨_, PA.p⟩, rfl⟩, ?_⟩
            generalize wd1.alloc (.cells #[.string nm] 9) = wd2 at *
            generalize wd1.heap.size = g6 at *
            refine wpE_one (i := 7) rfl (by kernel_rfl) rfl ?_
            unfold wpMid
            simp only [opsAt_nil, opsAt_cons, consOpt_some, List.getElem?_toArray, List.getElem?_cons_zero, List.getElem?_cons_succ]
            refine wpList_append_lies _ rfl _ _ 22 rfl (w4.heap.size + 1) 9 jI _ 1 16 Tryz.underlying22 hjI hzI0 hzI1 hzI2 rfl (by omega) (.slice Are (min k 4) cre) (min k 4) (strCells (exEvs.take k)) rfl PA.e ⟨g6, 0, none⟩ 1 1 [.string nm] rfl rfl (news_at C6) (by simp [Value.oneCell']) (by omega) (by simp only [maxLen]; omega) (by omega) PA.z _ rfl ?_
            intro gE cE wd3 hown1 hgrow _ _
            replace C11 := blk_grown C11 hgrow (fun r hr => (ownBlk PA.e hr).2.2) (by decide)
            replace PA := PA.appE hown1 hgrow
            clear hown1 hgrow C6
            refine onlyNormal_mk ⟨⟨⟨_, PA.p⟩, rfl⟩, ?_⟩
            refine wpE_put (l' := [_, _, _, _, _, _, _, _, _, _, _, _, _, _, _, _, _, _, _, _, _, _, _, _, _, _, _, _, _, _, _, _, _, _, _, _, _, _, _, _, _, _, _, _, _, _, _, _, _, _, _, _, _, _, _, _, _, _, _, _, _, _, _, _, _, _, _, _, _, _, _, _, _, _, _, _, _, _, _, _, _, _, _, _, _, _, _, _, _, _, _, _, _, _, _, _, _, _, _, _, _, _, _, _, _, _, _, _, _, _, _, _, _, _, _, _, _, _, _, _, _, _, _, _, _, _, _, _, _, _, _, _, _, _, _, _, _, _, _, _, _, _, _, _, _, _, _, _, _, _, _, _, _, _, _, _, _, _, _, _, _, _, _, _, _, _, _, _, _, _, _, _, _, _, _, _, _, _, _, _, _, _, _, _, _, _, _, _, _, _, _, _, _, _, _, _, _, _, _, _, _, _, _, _, _, _, _, _, _, _, _, _, _, _, _, _, _, _, _, _, _, _, _, _, _, _, _, _, _, _, _, _, _, _, _, _, _, _, _, _, _, _, _, _, _, _, _]) rfl ?_
            refine wpE_reads [13] 3 rfl (by kernel_rfl) ?_
            simp only [opsAt_nil, opsAt_cons, consOpt_some, List.getElem?_toArray, List.getElem?_cons_zero, List.getElem?_cons_succ]
            repeat (go_big_quiet_step (fail))
            refine wpQuiet_nil ?_
            refine wpE_one (i := 12) rfl (by kernel_rfl) rfl ?_
            unfold wpMid
            simp only [opsAt_nil, opsAt_cons, consOpt_some, List.getElem?_toArray, List.getElem?_cons_zero, List.getElem?_cons_succ]
            refine wpList_append_lies _ rfl _ _ 26 rfl (w4.heap.size + 1) 3 i1 _ 1 8 Tryz.underlying26 hi1 hy0 hy1 hy2 rfl (by omega) (.slice A8 k c8) k l8 rfl PA.i ⟨g11, 0, none⟩ 1 1 [.int .i64 ((k : Int) + 1)] rfl rfl (news_at C11) (by simp [Value.oneCell']) (by omega) (by simp only [maxLen]; omega) (by omega) PA.z _ rfl ?_
            intro gI cI wd4 hown1 hgrow _ _
            replace PA := PA.appI hown1 hgrow
            clear hown1 hgrow C11
            refine onlyNormal_mk ⟨⟨⟨_, PA.p⟩, rfl⟩, ?_⟩
            refine wpE_tail rfl (by kernel_rfl) ?_
            simp only [opsAt_nil, opsAt_cons, consOpt_some, List.getElem?_toArray, List.getElem?_cons_zero, List.getElem?_cons_succ]
            have KF := PA.p _ _ _ (by decide) (by decide) (by decide) HKB.out
            have q0 := frozen_of_row wd4 w4.heap.size 0 _ _ KF
            have t0 := cell_of_row wd4 w4.heap.size 0 _ _ _ KF
            simp at t0
            obtain ⟨s1, s2, s3, s4, s5⟩ := PA.store KF 0 (.slice (some ⟨gE, 0, none⟩) (min k 4 + 1) cE)
            clear PA HKB KF
            go_wp2
            refine onlyNormal_mk ?_
            go_wp2
            go_roundw
            case rel =>
              have hm : min k 4 + 1 = min (k + 1) 4 := by omega
              have hk0 : k - 4 = 0 := by omega
              have hk1 : k + 1 - 4 = 0 := by omega
              have ht : strCells (exEvs.take k) ++ [.string nm] = strCells (exEvs.take (k + 1)) := by
                rw [List.take_add_one, hne, strCells, strCells, List.map_append]
                rfl
              rw [ht] at s1
              rw [hk0] at s2
              refine ⟨k + 1, by omega, by go_num, .slice (some ⟨gE, 0, none⟩) (min k 4 + 1) cE, ra, s5, ?_, ?_, ?_, ?_, s4⟩
              · exact hm ▸ s1
              · rw [hk1]
                exact s2
              · exact fun _ => ⟨rfl, _, s3⟩
              · exact fun h9 => ⟨[], by rw [hk1]; exact ⟨rfl, .inl ⟨rfl, rfl⟩⟩⟩
            case measure => simp [intOf]; omega
    · by_cases hlt8 : k < 8
      · have hge : 4 ≤ k := by omega
        obtain ⟨kw, fm, ws, vs, b2, LN⟩ := ex_lineA k hge hlt8
        obtain ⟨s, hsq⟩ : ∃ s, exLines.getD k ⟨#[]⟩ = s := ⟨_, rfl⟩
        have hel := LN.li
        have hsp := LN.sp
        have hss := LN.lz
        rw [hsq] at hel hsp hss
        clear hsq
        have SP := fun W => split_any s hss W
        rw [hsp] at SP
        have hlws : ((kw, 1) :: ws).length = fm.size + 1 := by rw [List.length_cons, LN.lw]
        rw [hlws] at SP
        obtain ⟨b7, off7, hA7, _, el⟩ := (HRD.out.below hb) k _ hel
        cases hA7
        clear hel hsp hss hlws
        obtain ⟨l9, hown9⟩ := h9 hge
        have hm4 : min k 4 = 4 := by omega
        have ht4 : exEvs.take k = exEvs := List.take_of_length_le hge
        rw [hm4, ht4] at hre
        have hkd := LN.kd
        have hk6 := LN.k6
        have hac := LN.ac
        obtain ⟨j, hj⟩ : ∃ j, k - 4 = j := ⟨_, rfl⟩
        rw [hj] at hkd hk6 hac hra hown9
        have hj4 : j < 4 := by omega
        have HJ := Lib.hid hj
        have HAC := Lib.hid hac
        have HW := Lib.hid (And.intro hblk (And.intro hre (And.intro hra (And.intro hown9 hb))))
        have hszr := hb.size
        clear hblk hre hra h8 h9 hown9 hb hm4 ht4 hj hac
        have hk8 : (k : Int) < 8 := by omega
        have f4 := LN.f4
        have f5 := LN.f5
        go_upto_region 14 with (go_at_call 58; refine (SP _).mono ?_; rintro e w5 ⟨A7, c7, rfl, hown7, hb5⟩)
        have HOW7 := Lib.hid hown7
        clear hown7
        obtain ⟨b8, hA8, cur8, hc8, UW⟩ : ∃ b8, A7 = some ⟨b8, 0, none⟩ ∧ ∃ cur8 : Array Value, w5.heap[b8]? = some (.cells cur8 116 (0, 0)) ∧ ∀ (i : Nat) (u : Value), (wdCells ((kw, 1) :: ws))[i]? = some u → cur8[i]? = some u := by
          obtain ⟨b8, e8, c8, h8, h9⟩ := words_block HOW7.out (Nat.succ_pos _)
          subst e8
          exact ⟨b8, rfl, c8, h8, h9⟩
        subst hA8
        have v0 : w5.cell? ⟨b8, 0, none⟩ = some (.string kw) := (cell_of_row _ _ 0 _ _ _ hc8).trans (UW 0 _ rfl)
        have v1 : w5.cell? ⟨b8, 0 + 1, none⟩ = some (.int .i64 1) := (cell_of_row _ _ 1 _ _ _ hc8).trans (UW 1 _ rfl)
        have HUW := Lib.hid UW
        clear UW
        have x0 := fun x : Xt w5 => x.cell v0
        have x1 := fun x : Xt w5 => x.cell v1
        refine wp_region_eager [13] (fun w' => ∃ x : Xt w5, w' = x.1) (by kernel_rfl) ⟨⟨w5.drew, (Below.refl _ _).drew⟩, rfl⟩ ?_
        refine wpE_reads5 [0, 1, 2, 3, 4, 5, 6, 7, 8, 9, 10] 3 rfl (by kernel_rfl) ?_
        simp only [opsAt_nil, opsAt_cons, consOpt_some, List.getElem?_toArray, List.getElem?_cons_zero, List.getElem?_cons_succ]
        repeat (go_big_quiet_step (fail))
        refine wpQuiet_nil ?_
        have hbd : Below w5.heap.size w5 w5.drew := (Below.refl _ _).drew
        show wpE _ _ _ _ _ _ _ _ _ w5.drew
        clear x0 x1
        generalize w5.drew = wd at *
        refine wpE_one (i := 11) rfl (by kernel_rfl) rfl ?_
        unfold wpMid
        simp only [opsAt_nil, opsAt_cons, consOpt_some, List.getElem?_toArray, List.getElem?_cons_zero, List.getElem?_cons_succ]
        go_wp2
        refine onlyNormal_mk ⟨⟨⟨_, hbd.alloc hbd.size _⟩, rfl⟩, ?_⟩
        refine wpE_reads [12] 1 rfl (by kernel_rfl) ?_
        simp only [opsAt_nil, opsAt_cons, consOpt_some, List.getElem?_toArray, List.getElem?_cons_zero, List.getElem?_cons_succ]
        repeat (go_big_quiet_step (fail))
        refine wpQuiet_nil ?_
        refine wpE_tail rfl (by kernel_rfl) ?_
        simp only [opsAt_nil, opsAt_cons, consOpt_some, List.getElem?_toArray, List.getElem?_cons_zero, List.getElem?_cons_succ]
        go_wp2
        refine onlyNormal_mk ?_
        have hb7 := hbd.alloc hbd.size (.cells #[.int .i64 ((k : Int) + 1), .int .i64 1] 86)
        have hc8' := blk hb7 hc8
        have hbA := hb5.trans (hb7.mono hb5.size)
        clear hb5 hb7 hbd v0 v1 SP el hc8
        generalize wd.alloc (.cells #[.int .i64 ((k : Int) + 1), .int .i64 1] 86) = w7 at *
        generalize wd.heap.size = g13 at *
        have KW := fun W => kindWords_any W
        have FO := fun W => formOf_any kw false b2 LN.ke LN.kc W
        have NU := fun (W : World) (g : Nat) (h : Rd W W.heap.size (some ⟨g, 0, none⟩) (strCells kindW)) => numberOf_any (some ⟨g, 0, none⟩) 5 5 _ kindW kw W (by omega) rfl h
        rw [hkd] at NU
        rw [if_neg Bool.false_ne_true, LN.fo] at FO
        have ek := LN.ke
        clear hkd
        go_upto_region 23 with (first | (go_at_call 60; refine (KW _).mono ?_; clear KW; rintro e w8 ⟨gk, rfl, hrdK, hb8⟩) | (go_at_call 59; refine (NU _ _ hrdK).mono ?_; clear NU; rintro e w' ⟨rfl, rfl⟩) | (go_at_call 61; refine (FO _).mono ?_; clear FO; rintro e w' ⟨rfl, rfl⟩))
        clear hrdK
        obtain ⟨hblk, hre, hra, hown9, hb⟩ := HW.out
        obtain ⟨Are, cre, rfl⟩ := rowForm hre
        have hbW := hbA.trans (hb8.mono hbA.size)
        have kB := blk hbW hblk
        have hrdE := (rd_own hre).below hbW
        have kp8 : ∀ (e : TypeId) (b : Nat) (cur : Array Value), wr.heap[b]? = some (Obj.cells cur e (0, 0)) → w8.heap[b]? = wr.heap[b]? := fun e b cur hc => hbW.block b (Array.getElem?_eq_some_iff.1 hc).1
        have HW8 := Lib.hid (And.intro (own_keep hre (kp8 9)) (And.intro (own_keep hra (kp8 43)) (And.intro (own_keep hown9 (kp8 3)) (hb.trans (hbW.mono hszr)))))
        clear kp8
        have hc8w := blk hb8 hc8'
        have hs8 : w4.heap.size ≤ w8.heap.size := Nat.le_trans hszr hbW.size
        have RD : ∀ (c : Nat) (nm : ByteArray) (x : Int) (_ : c ≤ 255) (_ : nm.size ≤ 1000000) (_ : readE c nm exEvs = some x) (W : World) (B : Nat) (_ : Rd W B Are (strCells exEvs)), Calls Tryz.prog 62 #[.int .u8 c, .string nm, .slice Are 4 cre] W fun e w' => e = .returned (.tuple #[.int .i64 x, .int .i64 0]) ∧ Below W.heap.size W w' := fun c nm x hc hs hx (W : World) (B : Nat) (hr : Rd W B Are (strCells exEvs)) => read_any c nm Are 4 cre B exEvs W hc hs (by omega) rfl hr x hx
        have hrs := hbW.size
        clear hbW hblk hre hra hown9 hb hb8 hbA hc8'
        go_loopw [16, 17] (fun u16 u17 wq => ∃ i : Nat, i ≤ fm.size ∧ u17 = .int .i64 i ∧ wq.ownsRow w8.heap.size 3 1 u16 i (intCells (vs.take i)) ∧ Below w8.heap.size w8 wq) (fun _ u17 _ => fm.size - (intOf u17).toNat)
        case atStart => exact ⟨0, Nat.zero_le _, rfl, ⟨rfl, .inl ⟨rfl, rfl⟩⟩, Below.refl _ _⟩
        case round =>
          obtain ⟨i, hi, rfl, hown, hb⟩ := hrel
          by_cases hif : i < fm.size
          · have HOWN := Lib.hid hown
            obtain ⟨Au, cu, rfl⟩ := rowForm hown
            have HBQ := Lib.hid hb
            have hsq := hb.size
            obtain ⟨c0, c1⟩ := cells2 (blk hb kB)
            obtain ⟨p, hpq⟩ : ∃ p, ws.getD i (⟨#[]⟩, 0) = p := ⟨_, rfl⟩
            have hwp : ((kw, 1) :: ws)[i + 1]? = some p := by
              rw [List.getElem?_cons_succ, List.getElem?_eq_getElem (by rw [LN.lw]; exact hif), ← hpq, List.getD_eq_getElem?_getD, List.getElem?_eq_getElem (by rw [LN.lw]; exact hif)]
              rfl
            have v2q : wr.cell? ⟨b8, (i + 1) * 2, none⟩ = some (.string p.1) := (cell_of_row _ _ _ _ _ _ (blk hb hc8w)).trans (HUW.out _ _ (wd_at _ _ _ hwp))
            have hrdQ := hrdE.below (hb.mono hrs)
            have d1 := run_index9 fm i hif
            have hrx := LN.rd i hif
            have hsx := LN.sz i hif
            rw [hpq] at hrx hsx
            have hcb : (fm.data.toList.getD i 0).toNat ≤ 255 := by have := (fm.data.toList.getD i 0).toNat_lt; omega
            have RDx := RD _ _ _ hcb hsx hrx
            clear hown hb hpq hwp hrx hcb
            obtain ⟨x, hxq⟩ : ∃ x, vs.getD i 0 = x := ⟨_, rfl⟩
            rw [hxq] at RDx
            have HX : Hid (vs[i]? = some x) := by
              rw [Hid, ← hxq, List.getD_eq_getElem?_getD, List.getElem?_eq_getElem (by rw [LN.lv]; exact hif)]
              rfl
            clear hxq
            generalize (fm.data.toList.getD i 0).toNat = cb at *
            generalize p.1 = nm at *
            go_upto_region 28 with (fail)
            have x0 := fun x : Xt wr => x.cell c0
            have x1 := fun x : Xt wr => x.cell v2q
            refine wp_region_eager [16] (fun w' => ∃ y : Xt wr, w' = y.1) (by kernel_rfl) ⟨⟨wr.drew, (Below.refl _ _).drew⟩, rfl⟩ ?_
            refine wpE_reads6 [0, 1, 2, 3, 4, 5, 6, 7, 8, 9, 10] 6 rfl (by kernel_rfl) ?_
            simp only [opsAt_nil, opsAt_cons, consOpt_some, List.getElem?_toArray, List.getElem?_cons_zero, List.getElem?_cons_succ]
            repeat (go_big_quiet_step (fail))
            refine wpQuiet_nil ?_
            have hbx : Below wr.heap.size wr wr.drew := (Below.refl _ _).drew
            show wpE _ _ _ _ _ _ _ _ _ wr.drew
            clear x0 x1
            have hrdX := hrdQ.below (hbx.mono (Nat.le_trans hrs hsq))
            generalize wr.drew = wx at *
            refine wpE_one (i := 11) rfl (by kernel_rfl) rfl ?_
            unfold wpMid
            simp only [opsAt_nil, opsAt_cons, consOpt_some, List.getElem?_toArray, List.getElem?_cons_zero, List.getElem?_cons_succ]
            go_wp2_with (go_at_call 62; refine (RDx _ _ hrdX).mono ?_; rintro e wy ⟨rfl, hby⟩)
            refine onlyNormal_mk ⟨⟨⟨_, hbx.trans (hby.mono hbx.size)⟩, rfl⟩, ?_⟩
            refine wpE_reads [12, 13, 14, 15] 1 rfl (by kernel_rfl) ?_
            simp only [opsAt_nil, opsAt_cons, consOpt_some, List.getElem?_toArray, List.getElem?_cons_zero, List.getElem?_cons_succ]
            repeat (go_big_quiet_step (fail))
            refine wpQuiet_nil ?_
            refine wpE_tail rfl (by kernel_rfl) ?_
            simp only [opsAt_nil, opsAt_cons, consOpt_some, List.getElem?_toArray, List.getElem?_cons_zero, List.getElem?_cons_succ]
            go_wp2
            refine onlyNormal_mk ?_
            have hbz := hbx.trans (hby.mono hbx.size)
            have HOWZ := Lib.hid (own_keep HOWN.out fun b cur hc => hbz.block b (Array.getElem?_eq_some_iff.1 hc).1)
            have hsz9 : w8.heap.size ≤ wy.heap.size := Nat.le_trans hsq hbz.size
            have hba : Below wy.heap.size wy (wy.alloc (.cells #[.int .i64 x] 3)) := (Below.refl _ _).alloc (Nat.le_refl _) _
            have HBZ := Lib.hid (HBQ.out.trans (hbz.mono hsq))
            clear hbz hby hbx hrdX hrdQ v2q c0 c1 d1 HOWN HBQ RDx
            go_wp2_with (at_builtin; refine stp ?_)
            unfold Stp
            refine wpList_append_lies _ rfl _ _ 26 rfl w8.heap.size 3 i1 _ 1 8 Tryz.underlying26 hi1 hy0 hy1 hy2 rfl (by omega) (.slice Au i cu) i (intCells (vs.take i)) rfl (HOWZ.out.alloc _) ⟨wy.heap.size, 0, none⟩ 1 1 [.int .i64 x] rfl rfl (news1 (by simp)) (by simp [Value.oneCell']) (by omega) (by simp only [maxLen]; omega) (by omega) (by simp; omega) _ rfl ?_
            intro gg cap w9 hown1 hgrow hat hlt9
            have hb9 : Below w8.heap.size w8 w9 := (HBZ.out.trans (hba.mono hsz9)).grown hgrow (by have := hba.size; omega) (fun k hk => (ownBlk HOWZ.out hk).1)
            have HOWN1 : Hid (w9.ownsRow w8.heap.size 3 1 (.slice (some ⟨gg, 0, none⟩) (i + 1) cap) (i + 1) (intCells (vs.take (i + 1)))) := by
              rw [Hid, List.take_add_one, HX.out, intCells, List.map_append]
              exact hown1
            have HB9 := Lib.hid hb9
            clear hown1 hgrow hat hlt9 hb9 HOWZ HBZ hba
            go_wp2
            go_roundw
            case rel => exact ⟨i + 1, hif, by go_num, HOWN1.out, HB9.out⟩
            case measure => simp [intOf]; omega
          · obtain rfl : i = fm.size := by omega
            have kp9 : ∀ (e : TypeId) (b : Nat) (cur : Array Value), w8.heap[b]? = some (Obj.cells cur e (0, 0)) → wr.heap[b]? = w8.heap[b]? := fun e b cur hc => hb.block b (Array.getElem?_eq_some_iff.1 hc).1
            have HBX := Lib.hid (HW8.out.2.2.2.trans (hb.mono hs8))
            have KB := Lib.hid (blk hb kB)
            obtain ⟨A9, c9, rfl⟩ := rowForm HW8.out.2.2.1
            have PA : PaW w4 (.slice Are 4 cre) 4 (strCells exEvs) ra j (actCells (exActs.take j)) (.slice A9 j c9) j l9 wr wr := ⟨own_keep HW8.out.1 (kp9 9), own_keep HW8.out.2.1 (kp9 43), own_keep HW8.out.2.2.1 (kp9 3), HBX.out, (Array.getElem?_eq_some_iff.1 KB.out).1, fun _ _ _ _ _ _ h => h⟩
            rw [List.take_of_length_le (by rw [LN.lv]; exact Nat.le_refl _)] at hown
            obtain ⟨Au, cu, rfl⟩ := rowForm hown
            obtain ⟨gu, rfl, curu, hcu, UU⟩ := words_block hown (by omega)
            clear hown
            have hlv := LN.lv
            obtain ⟨v0, v1, v2, v3, r, hvs⟩ : ∃ v0 v1 v2 v3 r, vs = v0 :: v1 :: v2 :: v3 :: r := by
              match vs, hlv with
              | v0 :: v1 :: v2 :: v3 :: r, _ => exact ⟨_, _, _, _, _, rfl⟩
              | [], h => simp at h; omega
              | [_], h => simp at h; omega
              | [_, _], h => simp at h; omega
              | [_, _, _], h => simp at h; omega
            subst hvs
            have p0 := (cell_of_row _ _ 0 _ _ _ hcu).trans (UU 0 _ rfl)
            have p1 := (cell_of_row _ _ 1 _ _ _ hcu).trans (UU 1 _ rfl)
            have p2 := (cell_of_row _ _ 2 _ _ _ hcu).trans (UU 2 _ rfl)
            have p3 := (cell_of_row _ _ 3 _ _ _ hcu).trans (UU 3 _ rfl)
            have HPA := Lib.hid PA
            clear kp9 HW8 PA hb
            have hgl : ¬ ((fm.size : Int) + 1 < (fm.size : Int) + 1) := by omega
            go_upto_region 36 with (fail)
            have x0 := fun x : Xt wr => x.cell p0
            have x1 := fun x : Xt wr => x.cell p1
            have x2 := fun x : Xt wr => x.cell p2
            have x3 := fun x : Xt wr => x.cell p3
            refine wp_region_eager [15] (fun w' => ∃ x : Xt wr, w' = x.1) (by kernel_rfl) ⟨⟨wr.drew, (Below.refl _ _).drew⟩, rfl⟩ ?_
            refine wpE_reads5 [0, 1, 2, 3, 4, 5, 6, 7, 8, 9, 10, 11, 12, 13] 2 rfl (by kernel_rfl) ?_
            simp only [opsAt_nil, opsAt_cons, consOpt_some, List.getElem?_toArray, List.getElem?_cons_zero, List.getElem?_cons_succ]
            repeat (go_big_quiet_step (fail))
            refine wpQuiet_nil ?_
            have hbx : Below wr.heap.size wr wr.drew := (Below.refl _ _).drew
            show wpE _ _ _ _ _ _ _ _ _ wr.drew
            clear x0 x1 x2 x3 p0 p1 p2 p3
            generalize wr.drew = wx at *
            refine wpE_one (i := 14) rfl (by kernel_rfl) rfl ?_
            unfold wpMid
            simp only [opsAt_nil, opsAt_cons, consOpt_some, List.getElem?_toArray, List.getElem?_cons_zero, List.getElem?_cons_succ]
            go_wp2
            refine onlyNormal_mk ⟨⟨⟨_, hbx.alloc hbx.size _⟩, rfl⟩, ?_⟩
            refine wpE_tail rfl (by kernel_rfl) ?_
            simp only [opsAt_nil, opsAt_cons, consOpt_some, List.getElem?_toArray, List.getElem?_cons_zero, List.getElem?_cons_succ]
            go_wp2
            refine onlyNormal_mk ?_
            have hb1 : Below wr.heap.size wr (wx.alloc (.cells #[.int .i64 (j : Int), .int .i64 v0, .int .i64 v1, .int .i64 v2, .int .i64 v3, .int .i64 0] 43)) := hbx.alloc hbx.size _
            have G0 : (wx.alloc (.cells #[.int .i64 (j : Int), .int .i64 v0, .int .i64 v1, .int .i64 v2, .int .i64 v3, .int .i64 0] 43)).heap[wx.heap.size]? = some (.cells #[.int .i64 (j : Int), .int .i64 v0, .int .i64 v1, .int .i64 v2, .int .i64 v3, .int .i64 0] 43) := by rw [heapq_alloc, if_pos rfl]
            have hgx : wr.heap.size ≤ wx.heap.size := hbx.size
            generalize wx.alloc (.cells #[.int .i64 (j : Int), .int .i64 v0, .int .i64 v1, .int .i64 v2, .int .i64 v3, .int .i64 0] 43) = w1 at *
            generalize wx.heap.size = g21 at *
            clear hbx HOW7 HUW HW RD
            obtain ⟨Ara, cra, rfl⟩ := rowForm HPA.out.a
            obtain ⟨iA, hiA, hA0, hA1, hA2⟩ := info_parts info43
            by_cases hj2 : j = 2
            · subst hj2
              obtain ⟨v4, r', hr4⟩ : ∃ v4 r', r = v4 :: r' := by
                have h5 := hk6 rfl
                match r, hlv with
                | v4 :: r', _ => exact ⟨_, _, rfl⟩
                | [], h => simp at h; omega
              subst hr4
              have p4 := kept hb1 ((cell_of_row _ _ 4 _ _ _ hcu).trans (UU 4 _ rfl))
              have q5 := frozen_of_row w1 g21 5 _ _ G0
              obtain ⟨d0, d1, d2, d3, d4, d5⟩ := cells6w G0
              have hb2 : Below wr.heap.size wr (w1.setCell ⟨g21, 5, none⟩ (.int .i64 v4)) := hb1.setCell hgx _
              have G2 : (w1.setCell ⟨g21, 5, none⟩ (.int .i64 v4)).heap[g21]? = some (.cells #[.int .i64 2, .int .i64 v0, .int .i64 v1, .int .i64 v2, .int .i64 v3, .int .i64 v4] 43) := by
                rw [heapq_set, if_pos rfl, G0]
                rfl
              clear UU hcu
              go_upto_region 39 with (fail)
              clear d0 d1 d2 d3 d4 d5 q5 p4 G0
              generalize w1.setCell ⟨g21, 5, none⟩ (.int .i64 v4) = w2 at *
              have P2 := (HPA.out.below hb2).alloc (.cells #[.int .i64 2, .int .i64 v0, .int .i64 v1, .int .i64 v2, .int .i64 v3, .int .i64 v4] 43)
              have KF := blk hb2 KB.out
              obtain ⟨c0, c1⟩ := cells2 KF
              obtain ⟨d0, d1, d2, d3, d4, d5⟩ := cells6w G2
              have HA : Hid (∃ a, exActs[2]? = some a ∧ actVals a = [.int .i64 2, .int .i64 v0, .int .i64 v1, .int .i64 v2, .int .i64 v3, .int .i64 v4]) := by
                have h9 := HAC.out
                rw [Option.map_eq_some_iff] at h9
                exact h9
              clear hb2 G2 HPA HAC KF
              go_wp2_with (at_builtin; refine stp ?_)
              unfold Stp
              refine wpList_append_lies _ rfl _ _ 23 rfl (w4.heap.size + 1) 43 iA _ 6 48 Tryz.underlying23 hiA hA0 hA1 hA2 rfl (by omega) (.slice Ara 2 cra) 2 (actCells (exActs.take 2)) rfl P2.a ⟨w2.heap.size, 0, none⟩ 1 1 [.int .i64 2, .int .i64 v0, .int .i64 v1, .int .i64 v2, .int .i64 v3, .int .i64 v4] rfl rfl (news_at (by rw [heapq_alloc, if_pos rfl])) (by simp [Value.oneCell']) (by omega) (by simp only [maxLen]; omega) (by omega) P2.z _ rfl ?_
              intro gA cA w9 hownA hgrowA _ _
              refine wpList_put (l' := [_, _, _, _, _, _, _, _, _, _, _, _, _, _, _, _, _, _, _, _, _, _, _, _, _, _, _, _, _, _, _, _, _, _, _, _, _, _, _, _, _, _, _, _, _, _, _, _, _, _, _, _, _, _, _, _, _, _, _, _, _, _, _, _, _, _, _, _, _, _, _, _, _, _, _, _, _, _, _, _, _, _, _, _, _, _, _, _, _, _, _, _, _, _, _, _, _, _, _, _, _, _, _, _, _, _, _, _, _, _, _, _, _, _, _, _, _, _, _, _, _, _, _, _, _, _, _, _, _, _, _, _, _, _, _, _, _, _, _, _, _, _, _, _, _, _, _, _, _, _, _, _, _, _, _, _, _, _, _, _, _, _, _, _, _, _, _, _, _, _, _, _, _, _, _, _, _, _, _, _, _, _, _, _, _, _, _, _, _, _, _, _, _, _, _, _, _, _, _, _, _, _, _, _, _, _, _, _, _, _, _, _, _, _, _, _, _, _, _, _, _, _, _, _, _, _, _, _, _, _, _, _, _, _, _, _, _, _, _, _, _, _, _, _, _, _, _]) rfl ?_
              have P3 := (P2.appA hownA hgrowA).alloc (.cells #[.int .i64 ((k : Int) + 1)] 3)
              clear hownA hgrowA P2 c0 c1 d0 d1 d2 d3 d4 d5
              go_wp2_with (at_builtin; refine stp ?_)
              unfold Stp
              refine wpList_append_lies _ rfl _ _ 26 rfl (w4.heap.size + 1) 3 i1 _ 1 8 Tryz.underlying26 hi1 hy0 hy1 hy2 rfl (by omega) (.slice A9 2 c9) 2 l9 rfl P3.i ⟨w9.heap.size, 0, none⟩ 1 1 [.int .i64 ((k : Int) + 1)] rfl rfl (news_at (by rw [heapq_alloc, if_pos rfl])) (by simp [Value.oneCell']) (by omega) (by simp only [maxLen]; omega) (by omega) P3.z _ rfl ?_
              intro gI cI w10 hownI hgrowI _ _
              refine wpList_put (l' := [_, _, _, _, _, _, _, _, _, _, _, _, _, _, _, _, _, _, _, _, _, _, _, _, _, _, _, _, _, _, _, _, _, _, _, _, _, _, _, _, _, _, _, _, _, _, _, _, _, _, _, _, _, _, _, _, _, _, _, _, _, _, _, _, _, _, _, _, _, _, _, _, _, _, _, _, _, _, _, _, _, _, _, _, _, _, _, _, _, _, _, _, _, _, _, _, _, _, _, _, _, _, _, _, _, _, _, _, _, _, _, _, _, _, _, _, _, _, _, _, _, _, _, _, _, _, _, _, _, _, _, _, _, _, _, _, _, _, _, _, _, _, _, _, _, _, _, _, _, _, _, _, _, _, _, _, _, _, _, _, _, _, _, _, _, _, _, _, _, _, _, _, _, _, _, _, _, _, _, _, _, _, _, _, _, _, _, _, _, _, _, _, _, _, _, _, _, _, _, _, _, _, _, _, _, _, _, _, _, _, _, _, _, _, _, _, _, _, _, _, _, _, _, _, _, _, _, _, _, _, _, _, _, _, _, _, _, _, _, _, _, _, _, _, _, _, _]) rfl ?_
              have P4 := P3.appI hownI hgrowI
              clear hownI hgrowI P3
              have KF := P4.p _ _ _ (by decide) (by decide) (by decide) KB.out
              have q0 := frozen_of_row w10 w4.heap.size 1 _ _ KF
              have t0 := cell_of_row w10 w4.heap.size 1 _ _ _ KF
              simp at t0
              obtain ⟨s1, s2, s3, s4, s5⟩ := P4.store KF 1 (.slice (some ⟨gA, 0, none⟩) (2 + 1) cA)
              clear P4 KF
              go_wp2
              go_roundw
              case rel =>
                obtain ⟨aa, ha1, ha2⟩ := HA.out
                have hm : min (k + 1) 4 = 4 := by omega
                have hk1 : k + 1 - 4 = 2 + 1 := by have := HJ.out; omega
                have ht : actCells (exActs.take 2) ++ [.int .i64 2, .int .i64 v0, .int .i64 v1, .int .i64 v2, .int .i64 v3, .int .i64 v4] = actCells (exActs.take (2 + 1)) := by
                  rw [← ha2]
                  exact act_snoc ha1
                have he : exEvs.take (k + 1) = exEvs := List.take_of_length_le (by show 4 ≤ k + 1; omega)
                rw [ht] at s2
                refine ⟨k + 1, by omega, by go_num, .slice Are 4 cre, .slice (some ⟨gA, 0, none⟩) (2 + 1) cA, s5, ?_, ?_, fun h => by omega, fun _ => ⟨l9 ++ [.int .i64 ((k : Int) + 1)], ?_⟩, s4⟩
                · rw [hm, he]
                  exact s1
                · rw [hk1]
                  exact s2
                · rw [hk1]
                  exact s3
              case measure => simp [intOf]; omega
            · have hj2' : ((j : Int) == 2) = false := beq_eq_false_iff_ne.2 (by omega)
              clear UU hcu
              have hb2 := hb1
              have G2 := G0
              clear G0 hb1
              generalize w1 = w2 at *
              go_upto_region 39 with (fail)
              have P2 := (HPA.out.below hb2).alloc (.cells #[.int .i64 (j : Int), .int .i64 v0, .int .i64 v1, .int .i64 v2, .int .i64 v3, .int .i64 0] 43)
              have KF := blk hb2 KB.out
              obtain ⟨c0, c1⟩ := cells2 KF
              obtain ⟨d0, d1, d2, d3, d4, d5⟩ := cells6w G2
              have HA : Hid (∃ a, exActs[j]? = some a ∧ actVals a = [.int .i64 (j : Int), .int .i64 v0, .int .i64 v1, .int .i64 v2, .int .i64 v3, .int .i64 0]) := by
                have h9 := HAC.out
                rw [if_neg hj2] at h9
                rw [Option.map_eq_some_iff] at h9
                exact h9
              clear hb2 G2 HPA HAC KF
              go_wp2_with (at_builtin; refine stp ?_)
              unfold Stp
              refine wpList_append_lies _ rfl _ _ 23 rfl (w4.heap.size + 1) 43 iA _ 6 48 Tryz.underlying23 hiA hA0 hA1 hA2 rfl (by omega) (.slice Ara j cra) j (actCells (exActs.take j)) rfl P2.a ⟨w2.heap.size, 0, none⟩ 1 1 [.int .i64 (j : Int), .int .i64 v0, .int .i64 v1, .int .i64 v2, .int .i64 v3, .int .i64 0] rfl rfl (news_at (by rw [heapq_alloc, if_pos rfl])) (by simp [Value.oneCell']) (by omega) (by simp only [maxLen]; omega) (by omega) P2.z _ rfl ?_
              intro gA cA w9 hownA hgrowA _ _
              refine wpList_put (l' := [_, _, _, _, _, _, _, _, _, _, _, _, _, _, _, _, _, _, _, _, _, _, _, _, _, _, _, _, _, _, _, _, _, _, _, _, _, _, _, _, _, _, _, _, _, _, _, _, _, _, _, _, _, _, _, _, _, _, _, _, _, _, _, _, _, _, _, _, _, _, _, _, _, _, _, _, _, _, _, _, _, _, _, _, _, _, _, _, _, _, _, _, _, _, _, _, _, _, _, _, _, _, _, _, _, _, _, _, _, _, _, _, _, _, _, _, _, _, _, _, _, _, _, _, _, _, _, _, _, _, _, _, _, _, _, _, _, _, _, _, _, _, _, _, _, _, _, _, _, _, _, _, _, _, _, _, _, _, _, _, _, _, _, _, _, _, _, _, _, _, _, _, _, _, _, _, _, _, _, _, _, _, _, _, _, _, _, _, _, _, _, _, _, _, _, _, _, _, _, _, _, _, _, _, _, _, _, _, _, _, _, _, _, _, _, _, _, _, _, _, _, _, _, _, _, _, _, _, _, _, _, _, _, _, _, _, _, _, _, _, _, _, _, _, _, _, _]) rfl ?_
              have P3 := (P2.appA hownA hgrowA).alloc (.cells #[.int .i64 ((k : Int) + 1)] 3)
              clear hownA hgrowA P2 c0 c1 d0 d1 d2 d3 d4 d5
              go_wp2_with (at_builtin; refine stp ?_)
              unfold Stp
              refine wpList_append_lies _ rfl _ _ 26 rfl (w4.heap.size + 1) 3 i1 _ 1 8 Tryz.underlying26 hi1 hy0 hy1 hy2 rfl (by omega) (.slice A9 j c9) j l9 rfl P3.i ⟨w9.heap.size, 0, none⟩ 1 1 [.int .i64 ((k : Int) + 1)] rfl rfl (news_at (by rw [heapq_alloc, if_pos rfl])) (by simp [Value.oneCell']) (by omega) (by simp only [maxLen]; omega) (by omega) P3.z _ rfl ?_
              intro gI cI w10 hownI hgrowI _ _
              refine wpList_put (l' := [_, _, _, _, _, _, _, _, _, _, _, _, _, _, _, _, _, _, _, _, _, _, _, _, _, _, _, _, _, _, _, _, _, _, _, _, _, _, _, _, _, _, _, _, _, _, _, _, _, _, _, _, _, _, _, _, _, _, _, _, _, _, _, _, _, _, _, _, _, _, _, _, _, _, _, _, _, _, _, _, _, _, _, _, _, _, _, _, _, _, _, _, _, _, _, _, _, _, _, _, _, _, _, _, _, _, _, _, _, _, _, _, _, _, _, _, _, _, _, _, _, _, _, _, _, _, _, _, _, _, _, _, _, _, _, _, _, _, _, _, _, _, _, _, _, _, _, _, _, _, _, _, _, _, _, _, _, _, _, _, _, _, _, _, _, _, _, _, _, _, _, _, _, _, _, _, _, _, _, _, _, _, _, _, _, _, _, _, _, _, _, _, _, _, _, _, _, _, _, _, _, _, _, _, _, _, _, _, _, _, _, _, _, _, _, _, _, _, _, _, _, _, _, _, _, _, _, _, _, _, _, _, _, _, _, _, _, _, _, _, _, _, _, _, _, _, _]) rfl ?_
              have P4 := P3.appI hownI hgrowI
              clear hownI hgrowI P3
              have KF := P4.p _ _ _ (by decide) (by decide) (by decide) KB.out
              have q0 := frozen_of_row w10 w4.heap.size 1 _ _ KF
              have t0 := cell_of_row w10 w4.heap.size 1 _ _ _ KF
              simp at t0
              obtain ⟨s1, s2, s3, s4, s5⟩ := P4.store KF 1 (.slice (some ⟨gA, 0, none⟩) (j + 1) cA)
              clear P4 KF
              go_wp2
              go_roundw
              case rel =>
                obtain ⟨aa, ha1, ha2⟩ := HA.out
                have hm : min (k + 1) 4 = 4 := by omega
                have hk1 : k + 1 - 4 = j + 1 := by have := HJ.out; omega
                have ht : actCells (exActs.take j) ++ [.int .i64 (j : Int), .int .i64 v0, .int .i64 v1, .int .i64 v2, .int .i64 v3, .int .i64 0] = actCells (exActs.take (j + 1)) := by
                  rw [← ha2]
                  exact act_snoc ha1
                have he : exEvs.take (k + 1) = exEvs := List.take_of_length_le (by show 4 ≤ k + 1; omega)
                rw [ht] at s2
                refine ⟨k + 1, by omega, by go_num, .slice Are 4 cre, .slice (some ⟨gA, 0, none⟩) (j + 1) cA, s5, ?_, ?_, fun h => by omega, fun _ => ⟨l9 ++ [.int .i64 ((k : Int) + 1)], ?_⟩, s4⟩
                · rw [hm, he]
                  exact s1
                · rw [hk1]
                  exact s2
                · rw [hk1]
                  exact s3
              case measure => simp [intOf]; omega
      · obtain rfl : k = 8 := by omega
        simp only [show min 8 4 = 4 from rfl, show 8 - 4 = 4 from rfl] at hre hra
        rw [show exEvs.take 8 = exEvs from rfl] at hre
        rw [show exActs.take 4 = exActs from rfl] at hra
        obtain ⟨Are, cre, rfl⟩ := rowForm hre
        obtain ⟨Ara, cra, rfl⟩ := rowForm hra
        have N : NetAt wr wr.heap.size Are Ara 4 cre 4 exEvs exActs := ⟨rfl, rfl, rd_own hre, rd_own hra, by decide +kernel, own_cap hre⟩
        have hbW := hb
        have HN := Lib.hid N
        have CN := refCheckNet_any wr wr.heap.size Are Ara 4 cre 4 cra exEvs exActs N (Nat.le_refl _) (by omega) (by omega)
        rw [netE_zero.2 ⟨by decide, by decide, by decide +kernel, by decide, ex_right⟩, netV] at CN
        obtain ⟨c0, c1⟩ := cells2 hblk
        have j2 := blk (hb.mono (Nat.le_refl _)) k2
        have j3 := blk (hb.mono (Nat.le_refl _)) k3
        have HBW := Lib.hid hb
        have hsz := hb.size
        have hre0 := hre
        have hra0 := hra
        clear hre hra h8 h9 hb N k2 k3 hbW
        have HRE := Lib.hid hre0
        have HRA := Lib.hid hra0
        clear hre0 hra0
        go_upto_region 48 with (go_at_call 21; refine CN.mono ?_; rintro e w8 ⟨a, b, rfl, hb8⟩)
        have hbE := hb8.alloc hb8.size (.cells #[.int .i64 a, .int .i64 b] 58)
        have kn := blk hbE hblk
        have l2 := blk hbE j2
        have l3 := blk hbE j3
        have HFE := Lib.hid (own_keep HRE.out fun b cur hc => hbE.block b (Array.getElem?_eq_some_iff.1 hc).1)
        have HFA := Lib.hid (own_keep HRA.out fun b cur hc => hbE.block b (Array.getElem?_eq_some_iff.1 hc).1)
        have HBE := Lib.hid (HB.out.trans ((HBW.out.trans (hbE.mono hsz)).mono hs4))
        clear hb8 hbE c0 c1 j2 j3 hblk HN HRE HRA HBW CN HB HRD
        generalize w8.alloc (.cells #[.int .i64 a, .int .i64 b] 58) = wE at *
        obtain ⟨c0, c1⟩ := cells2 kn
        obtain ⟨r0, r1, q0, q1⟩ := res2 l2
        obtain ⟨m0, m1, p0, p1⟩ := res2 l3
        have HL2 := Lib.hid l2
        have HL3 := Lib.hid l3
        clear kn l2 l3
        go_wp2
        refine bodyPost_ret (v := .tuple #[netV Are 4 cre Ara 4 cra, .agg #[.int .i64 0, .int .i64 0], .int .i64 0]) (by simp [results, Tryz.results33, go_sem, netV, r0, r1, m0, m1]) rfl ⟨Are, cre, Ara, cra, 0, 0, rfl, ?_, ?_⟩
        · obtain ⟨fe, fa⟩ := own_put4 HFE.out HFA.out HL2.out HL3.out
          exact ⟨rfl, rfl, rd_own fe, rd_own fa, by decide +kernel, own_cap fe⟩
        · exact put4_below HBE.out
end Go.Proofs.YtnnnpijepdjanaaGreat
