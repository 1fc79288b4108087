/- The limits at the posts of a track. The greatest squares from which a train still stops. The fastest run from rest to rest. Squares that can be run. -/
import Derived.Test.YtnnnpijepdjanaaM1
import Derived.Lib.MinMax
namespace Go.Proofs.Ytnnnpijepdjanaa
open Go.RowKit

def limAt (pcs : List Pc) (j : Nat) : Int := ((pcs[j]?.map Pc.lim).getD 0)
def limA (pcs : List Pc) (i : Nat) : Int := min (limAt pcs (i - 1)) (limAt pcs (min i (pcs.length - 1)))
def limL (pcs : List Pc) : List Int := (List.range (pcs.length + 1)).map (limA pcs)
theorem limL_len (pcs : List Pc) : (limL pcs).length = pcs.length + 1 := by simp [limL]
theorem limL_at (pcs : List Pc) (i : Nat) (h : i < pcs.length + 1) : (limL pcs)[i]? = some (limA pcs i) := by simp [limL, h]
theorem limAt_some {pcs : List Pc} {j : Nat} {p : Pc} (h : pcs[j]? = some p) : limAt pcs j = p.lim := by simp [limAt, h]
theorem limAt_bound {pcs : List Pc} (h : ∀ p ∈ pcs, PcR p) {j : Nat} (hj : j < pcs.length) : 0 ≤ limAt pcs j ∧ limAt pcs j ≤ 20000000000 := by
  rw [limAt_some (List.getElem?_eq_getElem hj)]
  exact (h _ (List.getElem_mem hj)).2.2
theorem limA_bound {pcs : List Pc} (h : ∀ p ∈ pcs, PcR p) (h1 : 1 ≤ pcs.length) {i : Nat} (hi : i < pcs.length + 1) : 0 ≤ limA pcs i ∧ limA pcs i ≤ 20000000000 := by
  have a := limAt_bound h (j := i - 1) (by omega)
  have b := limAt_bound h (j := min i (pcs.length - 1)) (by omega)
  unfold limA
  omega
/-- what meets at a post -/
theorem meet_lim {pcs : List Pc} {lo n k : Nat} {x : Pc} (hk : k < pcs.length + 1) (h1 : 1 ≤ pcs.length) (hlo : lo = k - 1) (hn : lo + n = min pcs.length (k + 1)) (hx : x ∈ (pcs.drop lo).take n) (hmin : ∀ y ∈ (pcs.drop lo).take n, x.lim ≤ y.lim) : x.lim = limA pcs k := by
  have mem : ∀ y, y ∈ (pcs.drop lo).take n ↔ ∃ j, j < n ∧ pcs[lo + j]? = some y := by
    intro y
    rw [List.mem_iff_getElem?]
    constructor
    · rintro ⟨j, hj⟩
      rw [List.getElem?_take] at hj
      split at hj
      · exact ⟨j, by assumption, by rw [List.getElem?_drop] at hj; exact hj⟩
      · cases hj
    · rintro ⟨j, hj, hy⟩
      exact ⟨j, by rw [List.getElem?_take, if_pos hj, List.getElem?_drop]; exact hy⟩
  obtain ⟨a, ha⟩ : ∃ a, pcs[lo]? = some a := ⟨_, List.getElem?_eq_getElem (by omega)⟩
  obtain ⟨b, hb⟩ : ∃ b, pcs[min k (pcs.length - 1)]? = some b := ⟨_, List.getElem?_eq_getElem (by omega)⟩
  have hla := hmin a ((mem a).2 ⟨0, by omega, by rw [Nat.add_zero]; exact ha⟩)
  have hlb := hmin b ((mem b).2 ⟨min k (pcs.length - 1) - lo, by omega, by rw [show lo + (min k (pcs.length - 1) - lo) = min k (pcs.length - 1) by omega]; exact hb⟩)
  obtain ⟨j, hj, hxj⟩ := (mem x).1 hx
  have hor : x = a ∨ x = b := by
    rcases Nat.eq_zero_or_pos j with h0 | h0
    · subst h0
      rw [Nat.add_zero, ha] at hxj
      exact .inl (Option.some.inj hxj).symm
    · have : lo + j = min k (pcs.length - 1) := by omega
      rw [this, hb] at hxj
      exact .inr (Option.some.inj hxj).symm
  rw [limA, ← hlo, limAt_some ha, limAt_some hb]
  rcases hor with rfl | rfl <;> omega
theorem pcCells_drop (l : List Pc) : ∀ n, pcCells (l.drop n) = (pcCells l).drop (n * 4) := by
  induction l with
  | nil => intro n; simp [pcCells]
  | cons x l ih =>
    intro n
    cases n with
    | zero => simp
    | succ n =>
      rw [List.drop_succ_cons, ih n]
      have : pcCells (x :: l) = pcVals x ++ pcCells l := by simp [pcCells]
      rw [this, List.drop_append, (List.drop_eq_nil_iff (l := pcVals x)).2 (by simp [pcVals]; omega), List.nil_append]
      congr 1
      simp [pcVals]
      omega
theorem pcCells_take (l : List Pc) : ∀ n, pcCells (l.take n) = (pcCells l).take (n * 4) := by
  induction l with
  | nil => intro n; simp [pcCells]
  | cons x l ih =>
    intro n
    cases n with
    | zero => simp [pcCells]
    | succ n =>
      have h1 : pcCells (x :: l) = pcVals x ++ pcCells l := by simp [pcCells]
      have h2 : pcCells (x :: l.take n) = pcVals x ++ pcCells (l.take n) := by simp [pcCells]
      rw [List.take_succ_cons, h2, ih n, h1, List.take_append, List.take_of_length_le (l := pcVals x) (by simp [pcVals]; omega)]
      congr 2
      simp [pcVals]
      omega
theorem rd_part {w : World} {B b off : Nat} {pcs : List Pc} (h : Rd w B (some ⟨b, off, none⟩) (pcCells pcs)) (lo n : Nat) : Rd w B (some ⟨b, off + lo * 4, none⟩) (pcCells ((pcs.drop lo).take n)) := by
  intro j u hj
  rw [pcCells_take, List.getElem?_take] at hj
  split at hj
  · rw [pcCells_drop, List.getElem?_drop] at hj
    obtain ⟨b', off', e, hb, hc⟩ := h _ u hj
    cases e
    exact ⟨b, off + lo * 4, rfl, hb, by rw [Nat.add_assoc]; exact hc⟩
  · cases hj
theorem run_lim (W : World) (a b c : Int) (d : Bool) : Sem.run Try.prog (Instr.field 110 (.agg #[.int .i64 a, .int .i64 b, .int .i64 c, .bool d]) 2) W = .ok (.int .i64 c) W := by kernel_rfl
def LimRel (w0 : World) (pcs : List Pc) (np : Nat) (u3 u9 : Value) (wr : World) : Prop :=
  ∃ k : Nat, k ≤ np + 1 ∧ u9 = .int .i64 k ∧ wr.ownsRow w0.heap.size 3 1 u3 k (intCells ((limL pcs).take k)) ∧ Below w0.heap.size w0 wr
def LimPost (w : World) (pcs : List Pc) (np : Nat) (e : Ending) (w' : World) : Prop :=
  ∃ A c, e = .returned (.slice A (np + 1) c) ∧ Rd w' w'.heap.size A (intCells (limL pcs)) ∧ Below w.heap.size w w'
set_option maxRecDepth 100000 in
set_option maxHeartbeats 4000000 in
theorem limits_any (w : World) (B : Nat) (Ap : Option Addr) (np cp : Nat) (nm : ByteArray) (pcs : List Pc) (h : TrkAt w B Ap np nm pcs) (hB : B ≤ w.heap.size) (hcp : np ≤ cp) :
    Calls Try.prog 43 #[trackV nm Ap np cp] w (LimPost w pcs np) := by
  obtain ⟨i1, hi1, hy0, hy1, hy2⟩ := info_parts info3
  have hn1 : 1 ≤ np := by rw [← h.lp]; exact h.R.l1
  have hn12 : np ≤ 12 := by rw [← h.lp]; exact h.R.l2
  have HL := Lib.hid h.lp
  have HP := Lib.hid h.R.p
  have hb0 : Below w.heap.size w (w.alloc (.cells #[.string nm, .slice Ap np cp] 97)) := (Below.refl _ _).alloc (Nat.le_refl _) _
  have k0 : (w.alloc (.cells #[.string nm, .slice Ap np cp] 97)).heap[w.heap.size]? = some (.cells #[.string nm, .slice Ap np cp] 97 (0, 0)) := by rw [heapq_alloc, if_pos rfl]
  have hr0 := h.rp.below (hb0.mono hB)
  have hB0 := Nat.le_trans hB hb0.size
  have hs := hb0.size
  have HB := Lib.hid hb0
  obtain ⟨p0, hp0⟩ : ∃ p, pcs[0]? = some p := ⟨_, List.getElem?_eq_getElem (by rw [HL.out]; omega)⟩
  obtain ⟨b, off, hAp, _, _⟩ := hr0.pc hp0
  subst hAp
  have LA := fun W => last_any W nm (some ⟨b, off, none⟩) np cp
  have MF := fun (W : World) (c lo n : Nat) (hlo : lo + n ≤ np) (h1 : 1 ≤ n) (h2 : n ≤ 2) (hW : Rd W B (some ⟨b, off, none⟩) (pcCells pcs)) (hB' : B ≤ W.heap.size) => MinFunc_any W B (some ⟨b, off + lo * 4, none⟩) n c ((pcs.drop lo).take n) (by rw [List.length_take, List.length_drop, HL.out]; omega) h1 (by omega) (rd_part hW lo n) hB' (fun p hp => HP.out p (List.mem_of_mem_drop (List.mem_of_mem_take hp)))
  clear hb0 h hp0
  unfold trackV at LA ⊢
  go_enter Try.func43, Try.ntmps43
  go_upto_region 1 with (fail)
  generalize w.alloc (.cells #[.string nm, .slice (some ⟨b, off, none⟩) np cp] 97) = w0 at *
  obtain ⟨d0, d1⟩ := cells2 k0
  go_wp2_with (go_at_call 45; refine (LA _).mono ?_; rintro e w1 ⟨rfl, hb1⟩)
  replace k0 := blk hb1 k0
  replace hr0 := hr0.below (hb1.mono hB0)
  replace hB0 := Nat.le_trans hB0 hb1.size
  replace HB := Lib.hid (HB.out.trans (hb1.mono hs))
  replace hs := Nat.le_trans hs hb1.size
  clear hb1 d0 d1
  go_loopw [3, 9] (fun u3 u9 wr => LimRel w1 pcs np u3 u9 wr) (fun _ u9 _ => np + 1 - (intOf u9).toNat)
  case atStart => exact ⟨0, Nat.zero_le _, rfl, ⟨rfl, .inl ⟨rfl, rfl⟩⟩, Below.refl _ _⟩
  case round =>
    obtain ⟨k, hk, rfl, hown, hb⟩ := hrel
    have HOWN := Lib.hid hown
    obtain ⟨Au, cu, rfl⟩ := rowForm hown
    have HBR := Lib.hid hb
    have hsr := hb.size
    have kR := blk hb k0
    have hrR := hr0.below (hb.mono hB0)
    clear hown hb
    by_cases hlt : k < np + 1
    · have hltI : (k : Int) < (np : Int) + 1 := by omega
      obtain ⟨d0, d1⟩ := cells2 kR
      go_upto_region 5 with (fail)
      obtain ⟨lo, hlo⟩ : ∃ lo, k - 1 = lo := ⟨_, rfl⟩
      obtain ⟨n, hn⟩ : ∃ n, min np (k + 1) - lo = n := ⟨_, rfl⟩
      have m0 : max 0 ((k : Int) - 1) = (lo : Int) := by omega
      have m1 : min (np : Int) ((k : Int) + 1) = ((lo + n : Nat) : Int) := by omega
      have x0 := fun x : Xt wr => x.cell d0
      have x1 := fun x : Xt wr => x.cell d1
      refine wp_region_eager [12] (fun w' => ∃ x : Xt wr, w' = x.1) (by kernel_rfl) ⟨⟨wr.drew, (Below.refl _ _).drew⟩, rfl⟩ ?_
      refine wpE_reads7 [0, 1, 2, 3, 4, 5, 6, 8, 9] 4 rfl (by kernel_rfl) ?_
      simp only [opsAt_nil, opsAt_cons, consOpt_some, List.getElem?_toArray, List.getElem?_cons_zero, List.getElem?_cons_succ]
      repeat (go_big_quiet_step (fail))
      refine wpQuiet_nil ?_
      have hbd : Below wr.heap.size wr wr.drew := (Below.refl _ _).drew
      show wpE _ _ _ _ _ _ _ _ _ wr.drew
      generalize wr.drew = wd at *
      clear x0 x1
      refine wpE_one (i := 7) rfl (by kernel_rfl) rfl ?_
      unfold wpMid
      simp only [opsAt_nil, opsAt_cons, consOpt_some, List.getElem?_toArray, List.getElem?_cons_zero, List.getElem?_cons_succ]
      go_wp2_with (go_at_call 45; refine (LA _).mono ?_; rintro e w3 ⟨rfl, hb3⟩)
      have hb23 := hbd.trans (hb3.mono hbd.size)
      refine onlyNormal_mk ⟨⟨⟨_, hb23⟩, rfl⟩, ?_⟩
      refine wpE_reads7 [10, 11] 1 rfl (by kernel_rfl) ?_
      simp only [opsAt_nil, opsAt_cons, consOpt_some, List.getElem?_toArray, List.getElem?_cons_zero, List.getElem?_cons_succ]
      repeat (go_big_quiet_step (fail))
      refine wpQuiet_nil ?_
      refine wpE_tail rfl (by kernel_rfl) ?_
      simp only [opsAt_nil, opsAt_cons, consOpt_some, List.getElem?_toArray, List.getElem?_cons_zero, List.getElem?_cons_succ]
      go_wp2
      refine onlyNormal_mk ?_
      have hlon : lo + n ≤ np := by omega
      have hn1' : 1 ≤ n := by omega
      have hn2' : n ≤ 2 := by omega
      simp only [Nat.add_sub_cancel_left]
      have HLO := Lib.hid (And.intro hlo (And.intro hn (And.intro hltI hlt)))
      have MF3 := MF w3 (cp - lo) lo n hlon hn1' hn2' (hrR.below (hb23.mono (Nat.le_trans hB0 hsr))) (Nat.le_trans (Nat.le_trans hB0 hsr) hb23.size)
      have HOW3 := Lib.hid (own_keep HOWN.out fun b cur hc => hb23.block b (Array.getElem?_eq_some_iff.1 hc).1)
      have hs3 : w1.heap.size ≤ w3.heap.size := Nat.le_trans hsr hb23.size
      have HB3 := Lib.hid (HBR.out.trans (hb23.mono hsr))
      clear m0 m1 hlo hn hbd hb3 hb23 hrR HOWN HBR d0 d1 kR MF LA
      have RF := fun W a b c d => run_lim W a b c d
      go_wp2_with (first | (go_at_call 69; refine MF3.mono ?_; rintro e w4 ⟨x, hxm, rfl, hmin, hb4⟩; unfold pcV) | (at_builtin; refine stp ?_))
      unfold Stp
      have HX : Hid (x.lim = limA pcs k) := by
        obtain ⟨q1, q2, _, q4⟩ := HLO.out
        exact meet_lim (by rw [HL.out]; exact q4) (by rw [HL.out]; exact hn1) q1.symm (by rw [HL.out]; omega) hxm hmin
      rw [HX.out]
      have hL : Hid (intCells ((limL pcs).take (k + 1)) = intCells ((limL pcs).take k) ++ [.int .i64 (limA pcs k)]) := by
        rw [Hid, take_snoc (limL_at pcs k (by rw [HL.out]; exact hlt)), intCells, List.map_append]
        rfl
      have HOW4 := Lib.hid (own_keep HOW3.out fun b cur hc => hb4.block b (Array.getElem?_eq_some_iff.1 hc).1)
      have hs4 : w1.heap.size ≤ w4.heap.size := Nat.le_trans hs3 hb4.size
      have hba : Below w4.heap.size w4 (w4.alloc (.cells #[.int .i64 (limA pcs k)] 3)) := (Below.refl _ _).alloc (Nat.le_refl _) _
      have HB4 := Lib.hid (HB3.out.trans (hb4.mono hs3))
      clear hb4 hmin hxm MF3 HX RF
      generalize limA pcs k = L at *
      refine wpList_append_lies _ rfl _ _ 30 rfl w1.heap.size 3 i1 _ 1 8 Try.underlying30 hi1 hy0 hy1 hy2 rfl (by omega) (.slice Au k cu) k (intCells ((limL pcs).take k)) rfl (HOW4.out.alloc _) ⟨w4.heap.size, 0, none⟩ 1 1 [.int .i64 L] rfl rfl (news1 (by simp)) (by simp [Value.oneCell']) (by omega) (by simp only [maxLen]; omega) (by omega) (by simp; omega) _ rfl ?_
      intro gg cap w9 hown1 hgrow hat hlt9
      have hb9 : Below w1.heap.size w1 w9 := (HB4.out.trans (hba.mono hs4)).grown hgrow (by have := hba.size; omega) (fun k hk => (ownBlk HOW4.out hk).1)
      have HOWN1 : Hid (w9.ownsRow w1.heap.size 3 1 (.slice (some ⟨gg, 0, none⟩) (k + 1) cap) (k + 1) (intCells ((limL pcs).take (k + 1)))) := by
        rw [Hid, hL.out]
        exact hown1
      have HB9 := Lib.hid hb9
      clear hown1 hgrow hat hlt9 hb9 hba
      go_wp2
      go_roundw
      case rel => exact ⟨k + 1, by omega, by go_num, HOWN1.out, HB9.out⟩
      case measure => simp [intOf]; omega
    · obtain rfl : k = np + 1 := by omega
      have hgt : ¬ (((np + 1 : Nat) : Int) < (np : Int) + 1) := by omega
      have HF : Hid ((limL pcs).take (np + 1) = limL pcs) := by
        rw [Hid, List.take_of_length_le (by rw [limL_len, HL.out]; exact Nat.le_refl _)]
      clear hrR MF LA
      go_wp2
      go_ret
      have hrd := rd_own HOWN.out
      rw [HF.out] at hrd
      exact ⟨Au, cu, rfl, hrd, HB.out.trans (HBR.out.mono hs)⟩
end Go.Proofs.Ytnnnpijepdjanaa

namespace Go.Proofs.Ytnnnpijepdjanaa
open Go.RowKit

/-- a row of numbers that is a whole block -/
def RowB (w : World) (g : Nat) (l : List Int) : Prop := w.heap[g]? = some (.cells (intCells l).toArray 3 (0, 0))
theorem RowB.cell {w : World} {g i : Nat} {l : List Int} {x : Int} (h : RowB w g l) (hx : l[i]? = some x) : w.cell? ⟨g, i, none⟩ = some (.int .i64 x) := by
  rw [cell_of_row _ _ _ _ _ _ h]
  simp [intCells, hx]
theorem RowB.froz {w : World} {g : Nat} {l : List Int} (h : RowB w g l) (i : Nat) : w.frozen? ⟨g, i, none⟩ = false := frozen_of_row _ _ _ _ _ h
theorem RowB.put {w : World} {g : Nat} {l : List Int} (h : RowB w g l) (i : Nat) (v : Int) : RowB (w.setCell ⟨g, i, none⟩ (.int .i64 v)) g (l.set i v) := by
  unfold RowB at *
  rw [heapq_set, if_pos rfl, h]
  simp only [Option.map_some, objSet_cells]
  simp [intCells, List.map_set]
theorem RowB.keep {w w' : World} {g : Nat} {l : List Int} (h : RowB w g l) (hb : Below w.heap.size w w') : RowB w' g l := blk hb h
theorem RowB.lt {w : World} {g : Nat} {l : List Int} (h : RowB w g l) : g < w.heap.size := (Array.getElem?_eq_some_iff.1 h).1
theorem RowB.rd {w : World} {g : Nat} {l : List Int} (h : RowB w g l) : Rd w w.heap.size (some ⟨g, 0, none⟩) (intCells l) := by
  have := Rd_of_block h
  simpa using this
theorem RowB.made {w : World} {n : Nat} : RowB (w.alloc (.cells (madeCells #[.int .i64 0] n) 3)) w.heap.size (List.replicate n 0) := by
  unfold RowB
  rw [heapq_alloc, if_pos rfl]
  have : madeCells #[Value.int .i64 0] n = (intCells (List.replicate n 0)).toArray := by
    rw [intCells, List.map_replicate, ← toList_madeCells_one, Array.toArray_toList]
  rw [this]
/-- the greatest square so many pieces ahead of the end, or -1 -/
def bk (pcs : List Pc) (s : Sy) : Nat → Int
  | 0 => 0
  | d + 1 => if bk pcs s d = -1 then -1 else max (-1) (min (limA pcs (pcs.length - (d + 1))) (bk pcs s d + ((pcs[pcs.length - (d + 1)]?.map (lose s.brake)).getD 0)))
theorem bk_bound {pcs : List Pc} {s : Sy} (h : ∀ p ∈ pcs, PcR p) (h1 : 1 ≤ pcs.length) : ∀ d, -1 ≤ bk pcs s d ∧ bk pcs s d ≤ 20000000000
  | 0 => by simp [bk]
  | d + 1 => by
    rw [bk]
    have := limA_bound h h1 (i := pcs.length - (d + 1)) (by omega)
    split <;> omega
/-- what is known when so many posts from the end are done -/
def bkRow (pcs : List Pc) (s : Sy) (d : Nat) : List Int := (List.range (pcs.length + 1)).map fun j => if pcs.length ≤ j + d then bk pcs s (pcs.length - j) else 0
theorem bkRow_len (pcs : List Pc) (s : Sy) (d : Nat) : (bkRow pcs s d).length = pcs.length + 1 := by simp [bkRow]
theorem bkRow_at (pcs : List Pc) (s : Sy) (d j : Nat) (h : j < pcs.length + 1) : (bkRow pcs s d)[j]? = some (if pcs.length ≤ j + d then bk pcs s (pcs.length - j) else 0) := by simp [bkRow, h]
theorem bkRow_set (pcs : List Pc) (s : Sy) (d : Nat) (hd : d < pcs.length) (y : Int) : ((bkRow pcs s d).set (pcs.length - (d + 1)) y).set (pcs.length - (d + 1)) (bk pcs s (d + 1)) = bkRow pcs s (d + 1) := by
  rw [List.set_set]
  apply List.ext_getElem?
  intro j
  rw [List.getElem?_set]
  by_cases hj : j < pcs.length + 1
  · rw [bkRow_at _ _ _ _ hj, bkRow_at _ _ _ _ hj]
    by_cases h9 : pcs.length - (d + 1) = j
    · subst h9
      rw [if_pos rfl, if_pos (by rw [bkRow_len]; exact hj), if_pos (by omega), show pcs.length - (pcs.length - (d + 1)) = d + 1 by omega]
    · rw [if_neg h9]
      by_cases h8 : pcs.length ≤ j + d
      · rw [if_pos h8, if_pos (by omega)]
      · rw [if_neg h8, if_neg (by omega)]
  · rw [List.getElem?_eq_none (by rw [bkRow_len]; omega), List.getElem?_eq_none (by rw [bkRow_len]; omega)]
    rw [if_neg (by omega)]
theorem bkRow_zero (pcs : List Pc) (s : Sy) : (List.replicate (pcs.length + 1) 0).set pcs.length 0 = bkRow pcs s 0 := by
  apply List.ext_getElem?
  intro j
  rw [List.getElem?_set]
  by_cases hj : j < pcs.length + 1
  · rw [bkRow_at _ _ _ _ hj]
    by_cases h9 : pcs.length = j
    · subst h9
      rw [if_pos rfl, if_pos (by simp), if_pos (by omega), Nat.sub_self, bk]
    · rw [if_neg h9, if_neg (by omega), List.getElem?_replicate, if_pos hj]
  · rw [if_neg (by omega), List.getElem?_replicate, if_neg hj, List.getElem?_eq_none (by rw [bkRow_len]; omega)]
structure BkRel (w0 : World) (pcs : List Pc) (s : Sy) (np g : Nat) (u : Value) (wr : World) : Prop where
  d : ∃ d : Nat, d ≤ np ∧ u = .int .i64 ((np : Int) - 1 - d) ∧ RowB wr g (bkRow pcs s d)
  b : Below g w0 wr
def BkPost (w : World) (pcs : List Pc) (s : Sy) (np : Nat) (e : Ending) (w' : World) : Prop :=
  ∃ A c, e = .returned (.slice A (np + 1) c) ∧ Rd w' w'.heap.size A (intCells (bkRow pcs s np)) ∧ Below w.heap.size w w'
set_option maxRecDepth 100000 in
set_option maxHeartbeats 4000000 in
theorem backward_any (w : World) (B : Nat) (Ap : Option Addr) (np cp : Nat) (nm : ByteArray) (pcs : List Pc) (s : Sy) (h : TrkAt w B Ap np nm pcs) (hB : B ≤ w.heap.size) (hcp : np ≤ cp) (hS : SyR s) :
    Calls Try.prog 44 #[rideV nm Ap np cp s, .int .i64 0, .int .i64 np] w (BkPost w pcs s np) := by
  have hn1 : 1 ≤ np := by rw [← h.lp]; exact h.R.l1
  have hn12 : np ≤ 12 := by rw [← h.lp]; exact h.R.l2
  have HL := Lib.hid h.lp
  have HP := Lib.hid h.R.p
  obtain ⟨m, hm⟩ : ∃ m, m = np + 1 := ⟨_, rfl⟩
  have hmk := run_make_row' (P := Try.prog) 30 3 (.int .i64 0) 8 Try.underlying30 info3 rfl .i64 .i64 m (by omega) (by omega)
  obtain ⟨hb0, k0⟩ := ride_alloc w nm Ap np cp s 99
  have hT := h.below (hb0.mono hB)
  have hB0 := Nat.le_trans hB hb0.size
  have hs := hb0.size
  have HB := Lib.hid hb0
  have LM := fun (W : World) (h : TrkAt W B Ap np nm pcs) (hB : B ≤ W.heap.size) => limits_any W B Ap np cp nm pcs h hB hcp
  have BR := fun (W : World) (h : TrkAt W B Ap np nm pcs) (hB : B ≤ W.heap.size) (i : Nat) (p : Pc) (hi : pcs[i]? = some p) => braked_any W B Ap np cp nm pcs s h hB hS i p hi
  clear hb0 h
  unfold trackV at LM
  unfold rideV at BR ⊢
  go_enter Try.func44, Try.ntmps44
  go_upto_region 1 with (fail)
  generalize w.alloc (.cells #[.string nm, .slice Ap np cp, .int .i64 s.brake, .int .i64 s.drag, .int .i64 s.drive] 99) = w0 at *
  obtain ⟨d0, d1, d2, d3, d4⟩ := cells5w k0
  go_upto_region 2 with (go_at_call 43; refine (LM _ hT hB0).mono ?_; rintro e w1 ⟨AL, cL, rfl, hrL, hb1⟩)
  replace k0 := blk hb1 k0
  replace hT := hT.below (hb1.mono hB0)
  replace hB0 := Nat.le_trans hB0 hb1.size
  replace HB := Lib.hid (HB.out.trans (hb1.mono hs))
  replace hs := Nat.le_trans hs hb1.size
  clear hb1 d0 d1 d2 d3 d4 LM
  have hc1 : ((np : Int) + 1) = (m : Int) := by omega
  have HM := Lib.hid hm
  clear hm
  go_upto_region 3 with (fail)
  clear hc1 hmk
  have hbM : Below w1.heap.size w1 (w1.alloc (.cells (madeCells #[.int .i64 0] m) 3)) := (Below.refl _ _).alloc (Nat.le_refl _) _
  have hRB : RowB (w1.alloc (.cells (madeCells #[.int .i64 0] m) 3)) w1.heap.size (List.replicate m 0) := RowB.made
  have hgx : w.heap.size < w1.heap.size := (Array.getElem?_eq_some_iff.1 k0).1
  replace k0 := blk hbM k0
  replace hT := hT.below (hbM.mono hB0)
  replace hrL := hrL.below hbM
  have hB2 := Nat.le_trans hB0 hbM.size
  have hs2 := Nat.le_trans hs hbM.size
  have HB2 := Lib.hid (HB.out.trans (hbM.mono hs))
  clear hbM
  generalize w1.alloc (.cells (madeCells #[.int .i64 0] m) 3) = w2 at *
  generalize w1.heap.size = g at *
  have z0 : (List.replicate m (0 : Int))[np]? = some 0 := by
    rw [List.getElem?_replicate, if_pos (by have := HM.out; omega)]
  have e0 := hRB.cell z0
  have f0 := hRB.froz np
  have hb3 : ∀ n, n ≤ g → Below n w2 (w2.setCell ⟨g, np, none⟩ (.int .i64 0)) := fun n hn => (Below.refl _ _).setCell (p := ⟨g, np, none⟩) hn _
  have hRB3 := hRB.put np 0
  have hlm : np < m := by have := HM.out; omega
  go_upto_region 4 with (fail)
  have k3 : (w2.setCell ⟨g, np, none⟩ (.int .i64 0)).heap[w.heap.size]? = _ := (by rw [heapq_set, if_neg (by omega)] : (w2.setCell ⟨g, np, none⟩ (.int .i64 0)).heap[w.heap.size]? = w2.heap[w.heap.size]?).trans k0
  have hT3 := hT.below (hb3 B hB0)
  have hrL3 := hrL.below (hb3 g (Nat.le_refl _))
  have hB3 := Nat.le_trans hB2 (hb3 0 (Nat.zero_le _)).size
  have HB3 := Lib.hid (HB2.out.trans (hb3 _ hs))
  rw [show (List.replicate m (0 : Int)).set np 0 = bkRow pcs s 0 by rw [HM.out, ← HL.out]; exact bkRow_zero pcs s] at hRB3
  have hgw3 := hRB3.lt
  clear e0 f0 z0 hb3 hRB k0 hT hrL HB2 HB
  generalize w2.setCell ⟨g, np, none⟩ (.int .i64 0) = w3 at *
  go_wp2
  go_loopw [9] (fun u wr => BkRel w3 pcs s np g u wr) (fun u _ => (intOf u + 1).toNat)
  case atStart => exact ⟨⟨0, Nat.zero_le _, by simp, hRB3⟩, Below.refl _ _⟩
  case round =>
    obtain ⟨⟨d, hd, rfl, hrow⟩, hb⟩ := hrel
    have HBR := Lib.hid hb
    have hsr := hb.size
    have kR : wr.heap[w.heap.size]? = _ := (hb.block _ hgx).trans k3
    have hTR := hT3.below (hb.mono hB0)
    have hrLR := hrL3.below hb
    have hBR : B ≤ wr.heap.size := Nat.le_trans hB0 (Nat.le_of_lt hrow.lt)
    clear hb
    by_cases hlt : d < np
    · obtain ⟨i, hi⟩ : ∃ i : Nat, i + d + 1 = np := ⟨np - (d + 1), by omega⟩
      have hiI : (np : Int) - 1 - (d : Int) = (i : Int) := by omega
      rw [hiI]
      clear hiI
      have hil : i < pcs.length := by rw [HL.out]; omega
      obtain ⟨p, hp⟩ : ∃ p, pcs[i]? = some p := ⟨_, List.getElem?_eq_getElem hil⟩
      have hx0 : (bkRow pcs s d)[i]? = some 0 := by
        rw [bkRow_at _ _ _ _ (by omega), if_neg (by rw [HL.out]; omega)]
      have HS : Hid (∀ y, ((bkRow pcs s d).set i y).set i (bk pcs s (d + 1)) = bkRow pcs s (d + 1)) := by
        intro y
        have := bkRow_set pcs s d (by rw [HL.out]; exact hlt) y
        rw [show pcs.length - (d + 1) = i by rw [HL.out]; omega] at this
        exact this
      have HK : Hid (bk pcs s (d + 1) = if bk pcs s d = -1 then -1 else max (-1) (min (limA pcs i) (bk pcs s d + lose s.brake p))) := by
        rw [Hid, bk, show pcs.length - (d + 1) = i by rw [HL.out]; omega, hp]
        rfl
      have hx1 : ((bkRow pcs s d).set i (-1))[i + 1]? = some (bk pcs s d) := by
        rw [List.getElem?_set, if_neg (by omega), bkRow_at _ _ _ _ (by omega), if_pos (by rw [HL.out]; omega), show pcs.length - (i + 1) = d by rw [HL.out]; omega]
      have hlb := limA_bound HP.out (by rw [HL.out]; exact hn1) (i := i) (by omega)
      have hll := limL_at pcs i (by omega)
      have hbb := bk_bound (s := s) HP.out (by rw [HL.out]; exact hn1) d
      have hlo := lose_bound (dec := s.brake) (by have := hS.1; omega) (HP.out p (List.mem_of_getElem? hp))
      have BRi := fun (W : World) (h : TrkAt W B Ap np nm pcs) (hB : B ≤ W.heap.size) => BR W h hB i p hp
      have him : i < m := by omega
      have him1 : i + 1 < m := by omega
      have hi12 : i ≤ 12 := by omega
      have hin1 : i < np + 1 := by omega
      have e0 := hrow.cell hx0
      have f0 := hrow.froz i
      have hrow4 := hrow.put i (-1)
      have hbS : ∀ n, n ≤ g → Below n wr (wr.setCell ⟨g, i, none⟩ (.int .i64 (-1))) := fun n hn => (Below.refl _ _).setCell (p := ⟨g, i, none⟩) hn _
      have kR4 : (wr.setCell ⟨g, i, none⟩ (.int .i64 (-1))).heap[w.heap.size]? = _ := (by rw [heapq_set, if_neg (by omega)] : (wr.setCell ⟨g, i, none⟩ (.int .i64 (-1))).heap[w.heap.size]? = wr.heap[w.heap.size]?).trans kR
      have hT4 := hTR.below (hbS B hB0)
      have hrL4 := hrLR.below (hbS g (Nat.le_refl _))
      have HB4 := Lib.hid (HBR.out.trans ((hbS g (Nat.le_refl _))))
      have HI := Lib.hid hi
      clear hx0 hp hi hil BR hbS hrow kR hTR hrLR hBR hsr
      generalize bk pcs s (d + 1) = v1 at *
      generalize bk pcs s d = v0 at *
      generalize lose s.brake p = lo at *
      generalize limA pcs i = li at *
      go_upto_region 8 with (fail)
      clear e0 f0
      generalize wr.setCell ⟨g, i, none⟩ (.int .i64 (-1)) = w4 at *
      have e1 := hrow4.cell hx1
      have hs4 : B ≤ w4.heap.size := Nat.le_trans hB0 (Nat.le_of_lt hrow4.lt)
      by_cases hv : v0 = -1
      · subst hv
        have hv1 : v1 = -1 := by rw [HK.out, if_pos rfl]
        have HROW : Hid (RowB w4 g (bkRow pcs s (d + 1))) := by
          have h9 := HS.out (-1)
          rw [hv1, List.set_set] at h9
          rw [Hid, ← h9]
          exact hrow4
        clear hrow4 hx1
        go_wp2
        go_roundw
        case rel => exact ⟨⟨d + 1, hlt, by have := HI.out; simp; omega, HROW.out⟩, HB4.out⟩
        case measure => simp [intOf]
      · have hv' : (v0 != -1) = true := bne_iff_ne.2 hv
        have HK1 : Hid (v1 = max (-1) (min li (v0 + lo))) := by
          have h9 := HK.out
          rw [if_neg hv] at h9
          exact h9
        obtain ⟨bl, ol, hAL, _, e2⟩ := hrL4 i (.int .i64 li) (by simp [intCells, hll])
        subst hAL
        obtain ⟨d0, d1, d2, d3, d4⟩ := cells5w kR4
        clear HK hv
        go_upto_region 9 with (fail)
        have x1 := fun x : Xt w4 => x.cell e1
        have x2 := fun x : Xt w4 => x.cell e2
        have y0 := fun x : Xt w4 => x.cell d0
        have y1 := fun x : Xt w4 => x.cell d1
        have y2 := fun x : Xt w4 => x.cell d2
        have y3 := fun x : Xt w4 => x.cell d3
        have y4 := fun x : Xt w4 => x.cell d4
        refine wp_region_eager [18] (fun w' => ∃ x : Xt w4, w' = x.1) (by kernel_rfl) ⟨⟨w4.drew, (Below.refl _ _).drew⟩, rfl⟩ ?_
        refine wpE_reads7 [0, 1, 2, 3, 4, 5, 6, 7, 8, 9, 10, 11, 12] 6 rfl (by kernel_rfl) ?_
        simp only [opsAt_nil, opsAt_cons, consOpt_some, List.getElem?_toArray, List.getElem?_cons_zero, List.getElem?_cons_succ]
        repeat (go_big_quiet_step (fail))
        refine wpQuiet_nil ?_
        have hbd : Below w4.heap.size w4 w4.drew := (Below.refl _ _).drew
        show wpE _ _ _ _ _ _ _ _ _ w4.drew
        generalize w4.drew = wd at *
        clear x1 x2 y0 y1 y2 y3 y4 e1 e2 d0 d1 d2 d3 d4
        have BR5 := BRi wd (hT4.below (hbd.mono hs4)) (Nat.le_trans hs4 hbd.size)
        refine wpE_one (i := 13) rfl (by kernel_rfl) rfl ?_
        unfold wpMid
        simp only [opsAt_nil, opsAt_cons, consOpt_some, List.getElem?_toArray, List.getElem?_cons_zero, List.getElem?_cons_succ]
        go_wp2_with (go_at_call 51; refine BR5.mono ?_; rintro e w5 ⟨rfl, hb5⟩)
        have hb45 := hbd.trans (hb5.mono hbd.size)
        refine onlyNormal_mk ⟨⟨⟨_, hb45⟩, rfl⟩, ?_⟩
        refine wpE_reads7 [14, 15, 16, 17] 1 rfl (by kernel_rfl) ?_
        simp only [opsAt_nil, opsAt_cons, consOpt_some, List.getElem?_toArray, List.getElem?_cons_zero, List.getElem?_cons_succ]
        repeat (go_big_quiet_step (fail))
        refine wpQuiet_nil ?_
        have hm9 : max (-1) (min li (v0 + lo)) = v1 := HK1.out.symm
        rw [hm9]
        clear hm9
        refine wpE_tail rfl (by kernel_rfl) ?_
        simp only [opsAt_nil, opsAt_cons, consOpt_some, List.getElem?_toArray, List.getElem?_cons_zero, List.getElem?_cons_succ]
        have hrow5 := hrow4.keep hb45
        have hx2 : ((bkRow pcs s d).set i (-1))[i]? = some (-1) := by
          rw [List.getElem?_set, if_pos rfl, if_pos (by rw [bkRow_len, HL.out]; have := HI.out; omega)]
        have e0 := hrow5.cell hx2
        have f0 := hrow5.froz i
        have HROW : Hid (RowB (w5.setCell ⟨g, i, none⟩ (.int .i64 v1)) g (bkRow pcs s (d + 1))) := by
          have h9 := hrow5.put i v1
          rw [HS.out] at h9
          exact h9
        have hg4 := hrow4.lt
        have HB5 := Lib.hid ((HB4.out.trans (hb45.mono (Nat.le_of_lt hg4))).setCell (p := ⟨g, i, none⟩) (Nat.le_refl _) (.int .i64 v1))
        clear hrow4 hrow5 hx1 hx2 hb45 hb5 hbd BR5 HK1
        go_wp2
        refine onlyNormal_mk ?_
        go_wp2
        go_roundw
        case rel => exact ⟨⟨d + 1, hlt, by have := HI.out; simp; omega, HROW.out⟩, HB5.out⟩
        case measure => simp [intOf]
    · obtain rfl : d = np := by omega
      have hm1 : ((d : Int) - 1 - (d : Int)) = -1 := by omega
      rw [hm1]
      have HRW := Lib.hid hrow
      have HM' := HM.out
      clear hrow kR hTR hrLR BR hm1
      go_wp2
      go_ret
      subst HM'
      exact ⟨_, _, rfl, HRW.out.rd, HB3.out.trans (HBR.out.mono (by omega))⟩
end Go.Proofs.Ytnnnpijepdjanaa

namespace Go.Proofs.Ytnnnpijepdjanaa
open Go.RowKit

def gainAt (pcs : List Pc) (s : Sy) (i : Nat) : Int := ((pcs[i]?.map fun p => -(lose (-s.drive) p)).getD 0)
/-- the greatest squares that can be run -/
def fs (pcs : List Pc) (s : Sy) : Nat → Int
  | 0 => 0
  | i + 1 => min (bk pcs s (pcs.length - (i + 1))) (fs pcs s i + gainAt pcs s i)
def fsL (pcs : List Pc) (s : Sy) : List Int := (List.range (pcs.length + 1)).map (fs pcs s)
theorem fsL_len (pcs : List Pc) (s : Sy) : (fsL pcs s).length = pcs.length + 1 := by simp [fsL]
theorem fsL_at (pcs : List Pc) (s : Sy) (i : Nat) (h : i < pcs.length + 1) : (fsL pcs s)[i]? = some (fs pcs s i) := by simp [fsL, h]
theorem fs_le {pcs : List Pc} {s : Sy} (h : ∀ p ∈ pcs, PcR p) (h1 : 1 ≤ pcs.length) : ∀ i, fs pcs s i ≤ 20000000000
  | 0 => by simp [fs]
  | i + 1 => by
    rw [fs]
    have := bk_bound (s := s) h h1 (pcs.length - (i + 1))
    omega
theorem own_one (w : World) (v : Int) : (w.alloc (.cells #[.int .i64 v] 3)).ownsRow w.heap.size 3 1 (.slice (some ⟨w.heap.size, 0, none⟩) 1 1) 1 [.int .i64 v] :=
  ⟨by simp, .inr ⟨w.heap.size, 1, #[.int .i64 v], rfl, Nat.le_refl _, by rw [heapq_alloc, if_pos rfl], Nat.le_refl _, by simp [maxLen], by simp, by simp⟩⟩
def FastRel (w0 : World) (pcs : List Pc) (s : Sy) (np : Nat) (u12 u67 : Value) (wr : World) : Prop :=
  ∃ k : Nat, k ≤ np ∧ u67 = .int .i64 k ∧ wr.ownsRow w0.heap.size 3 1 u12 (k + 1) (intCells ((fsL pcs s).take (k + 1))) ∧ (∀ i, i ≤ k → 0 ≤ fs pcs s i) ∧ Below w0.heap.size w0 wr
def FastPost (w : World) (pcs : List Pc) (s : Sy) (np : Nat) (e : Ending) (w' : World) : Prop :=
  ((∃ A c, e = .returned (.tuple #[.slice A (np + 1) c, .int .i64 0]) ∧ Rd w' w'.heap.size A (intCells (fsL pcs s)) ∧ ∀ i, i ≤ np → 0 ≤ fs pcs s i) ∨ e = .returned (.tuple #[.slice none 0 0, .int .i64 12])) ∧ Below w.heap.size w w'
set_option maxRecDepth 100000 in
set_option maxHeartbeats 8000000 in
theorem Fastest_any (w : World) (B : Nat) (Ap : Option Addr) (np cp : Nat) (nm : ByteArray) (pcs : List Pc) (s : Sy) (h : TrkAt w B Ap np nm pcs) (hB : B ≤ w.heap.size) (hcp : np ≤ cp) (hS : SyR s) :
    Calls Try.prog 16 #[trackV nm Ap np cp, syV s, .agg #[.int .i64 0, .int .i64 0]] w (FastPost w pcs s np) := by
  obtain ⟨i1, hi1, hy0, hy1, hy2⟩ := info_parts info3
  have hn1 : 1 ≤ np := by rw [← h.lp]; exact h.R.l1
  have hn12 : np ≤ 12 := by rw [← h.lp]; exact h.R.l2
  have HL := Lib.hid h.lp
  have HP := Lib.hid h.R.p
  have OP := fun (W : World) (h : TrkAt W B Ap np nm pcs) (hB : B ≤ W.heap.size) => openRide_right W B Ap np cp nm pcs s h hB hS
  have LM := fun (W : World) (h : TrkAt W B Ap np nm pcs) (hB : B ≤ W.heap.size) => limits_any W B Ap np cp nm pcs h hB hcp
  have BW := fun (W : World) (h : TrkAt W B Ap np nm pcs) (hB : B ≤ W.heap.size) => backward_any W B Ap np cp nm pcs s h hB hcp hS
  have DR := fun (W : World) (h : TrkAt W B Ap np nm pcs) (hB : B ≤ W.heap.size) (i : Nat) (p : Pc) (hi : pcs[i]? = some p) => driven_any W B Ap np cp nm pcs s h hB hS i p hi
  have LA := fun W => last_any W nm Ap np cp
  have SQ := fun W => isSquare_val 0 true (by decide) W
  have hb0 : Below w.heap.size w (((w.alloc (.cells #[.string nm, .slice Ap np cp] 42)).alloc (.cells #[.int .i64 s.brake, .int .i64 s.drag, .int .i64 s.drive] 44)).alloc (.cells #[.int .i64 0, .int .i64 0] 52)) := (((Below.refl _ _).alloc (Nat.le_refl _) _).alloc (by simp) _).alloc (by simp; omega) _
  have k1 : (((w.alloc (.cells #[.string nm, .slice Ap np cp] 42)).alloc (.cells #[.int .i64 s.brake, .int .i64 s.drag, .int .i64 s.drive] 44)).alloc (.cells #[.int .i64 0, .int .i64 0] 52)).heap[w.heap.size]? = some (.cells #[.string nm, .slice Ap np cp] 42 (0, 0)) := by
    rw [heapq_alloc, if_neg (by simp; omega), heapq_alloc, if_neg (by simp), heapq_alloc, if_pos rfl]
  have k2 : (((w.alloc (.cells #[.string nm, .slice Ap np cp] 42)).alloc (.cells #[.int .i64 s.brake, .int .i64 s.drag, .int .i64 s.drive] 44)).alloc (.cells #[.int .i64 0, .int .i64 0] 52)).heap[w.heap.size + 1]? = some (.cells #[.int .i64 s.brake, .int .i64 s.drag, .int .i64 s.drive] 44 (0, 0)) := by
    rw [heapq_alloc, if_neg (by simp), heapq_alloc, if_pos (by simp)]
  have k3 : (((w.alloc (.cells #[.string nm, .slice Ap np cp] 42)).alloc (.cells #[.int .i64 s.brake, .int .i64 s.drag, .int .i64 s.drive] 44)).alloc (.cells #[.int .i64 0, .int .i64 0] 52)).heap[w.heap.size + 1 + 1]? = some (.cells #[.int .i64 0, .int .i64 0] 52 (0, 0)) := by
    rw [heapq_alloc, if_pos (by simp)]
  have hT := h.below (hb0.mono hB)
  have hB0 := Nat.le_trans hB hb0.size
  have hs := hb0.size
  have HB := Lib.hid hb0
  clear hb0 h
  unfold trackV at OP LM LA ⊢
  unfold rideV at OP BW DR
  unfold syV at OP ⊢
  go_enter Try.func16, Try.ntmps16
  go_upto_region 1 with (fail)
  generalize (((w.alloc (.cells #[.string nm, .slice Ap np cp] 42)).alloc (.cells #[.int .i64 s.brake, .int .i64 s.drag, .int .i64 s.drive] 44)).alloc (.cells #[.int .i64 0, .int .i64 0] 52)) = w0 at *
  obtain ⟨d0, d1⟩ := cells2 k1
  obtain ⟨e0, e1, e2⟩ := cells3w k2
  go_upto_region 2 with (go_at_call 39; refine (OP _ hT hB0).mono ?_; rintro e w1 ⟨rfl, hb1⟩)
  have hbA := hb1.alloc hb1.size (.cells #[.string nm, .slice Ap np cp, .int .i64 s.brake, .int .i64 s.drag, .int .i64 s.drive] 99)
  have k4 : (w1.alloc (.cells #[.string nm, .slice Ap np cp, .int .i64 s.brake, .int .i64 s.drag, .int .i64 s.drive] 99)).heap[w1.heap.size]? = some (.cells #[.string nm, .slice Ap np cp, .int .i64 s.brake, .int .i64 s.drag, .int .i64 s.drive] 99 (0, 0)) := by rw [heapq_alloc, if_pos rfl]
  replace k3 := blk hbA k3
  replace hT := hT.below (hbA.mono hB0)
  replace HB := Lib.hid (HB.out.trans (hbA.mono hs))
  replace hs := Nat.le_trans hs hbA.size
  replace hB0 := Nat.le_trans hB0 hbA.size
  clear hb1 hbA OP d0 d1 e0 e1 e2 k1 k2
  generalize w1.alloc (.cells #[.string nm, .slice Ap np cp, .int .i64 s.brake, .int .i64 s.drag, .int .i64 s.drive] 99) = w2 at *
  generalize w1.heap.size = g at *
  obtain ⟨r0, r1⟩ := cells2 k3
  have F2 := bkFirst2 w2
  go_upto_region 3 with (first | (go_at_call 42; refine (SQ _).mono ?_; rintro e w' ⟨rfl, rfl⟩) | (go_at_call 41; refine (bkUnless_yes _ _).mono ?_; rintro e w' ⟨rfl, rfl⟩) | (go_at_call 40; refine F2.mono ?_; rintro e w' ⟨rfl, rfl⟩))
  have hbA : Below w2.heap.size w2 (w2.alloc (.cells #[.int .i64 0, .int .i64 0] 31)) := (Below.refl _ _).alloc (Nat.le_refl _) _
  replace k3 := blk hbA k3
  replace k4 := blk hbA k4
  replace hT := hT.below (hbA.mono hB0)
  replace HB := Lib.hid (HB.out.trans (hbA.mono hs))
  replace hs := Nat.le_trans hs hbA.size
  replace hB0 := Nat.le_trans hB0 hbA.size
  clear hbA F2 SQ r0 r1
  generalize w2.alloc (.cells #[.int .i64 0, .int .i64 0] 31) = w3 at *
  obtain ⟨d0, d1, d2, d3, d4⟩ := cells5w k4
  go_upto_region 6 with (go_at_call 43; refine (LM _ hT hB0).mono ?_; rintro e w4 ⟨AL, cL, rfl, hrL, hb4⟩)
  replace k3 := blk hb4 k3
  replace k4 := blk hb4 k4
  replace hT := hT.below (hb4.mono hB0)
  replace HB := Lib.hid (HB.out.trans (hb4.mono hs))
  replace hs := Nat.le_trans hs hb4.size
  replace hB0 := Nat.le_trans hB0 hb4.size
  clear hb4 LM d0 d1 d2 d3 d4
  obtain ⟨d0, d1, d2, d3, d4⟩ := cells5w k4
  obtain ⟨r0, r1⟩ := cells2 k3
  have hlb := limA_bound HP.out (by rw [HL.out]; exact hn1) (i := np) (by rw [HL.out]; omega)
  obtain ⟨bl, ol, hAL, hbl, c0⟩ := hrL np (.int .i64 (limA pcs np)) (by simp [intCells, limL_at pcs np (by rw [HL.out]; omega)])
  subst hAL
  have x0 := fun x : Xt w4 => x.cell d0
  have x1 := fun x : Xt w4 => x.cell d1
  have x2 := fun x : Xt w4 => x.cell d2
  have x3 := fun x : Xt w4 => x.cell d3
  have x4 := fun x : Xt w4 => x.cell d4
  have y1 := fun x : Xt w4 => x.cell r1
  have z0 := fun x : Xt w4 => x.cell c0
  have hmin : min 0 (limA pcs np) = 0 := by omega
  generalize limA pcs np = li at *
  refine wp_region_eager [14] (fun w' => ∃ x : Xt w4, w' = x.1) (by kernel_rfl) ⟨⟨w4.drew, (Below.refl _ _).drew⟩, rfl⟩ ?_
  refine wpE_reads7 [0, 1, 2, 3, 4, 5, 10, 11] 7 rfl (by kernel_rfl) ?_
  simp only [opsAt_nil, opsAt_cons, consOpt_some, List.getElem?_toArray, List.getElem?_cons_zero, List.getElem?_cons_succ]
  repeat (go_big_quiet_step (fail))
  refine wpQuiet_nil ?_
  have hbd : Below w4.heap.size w4 w4.drew := (Below.refl _ _).drew
  show wpE _ _ _ _ _ _ _ _ _ w4.drew
  generalize w4.drew = wd at *
  refine wpE_one (i := 6) rfl (by kernel_rfl) rfl ?_
  unfold wpMid
  simp only [opsAt_nil, opsAt_cons, consOpt_some, List.getElem?_toArray, List.getElem?_cons_zero, List.getElem?_cons_succ]
  go_wp2_with (go_at_call 45; refine (LA _).mono ?_; rintro e w5 ⟨rfl, hb5⟩)
  have hb45 := hbd.trans (hb5.mono hbd.size)
  refine onlyNormal_mk ⟨⟨⟨_, hb45⟩, rfl⟩, ?_⟩
  refine wpE_reads7 [7, 8, 9] 3 rfl (by kernel_rfl) ?_
  simp only [opsAt_nil, opsAt_cons, consOpt_some, List.getElem?_toArray, List.getElem?_cons_zero, List.getElem?_cons_succ]
  repeat (go_big_quiet_step (fail))
  refine wpQuiet_nil ?_
  clear hmin
  refine wpE_one (i := 12) rfl (by kernel_rfl) rfl ?_
  unfold wpMid
  simp only [opsAt_nil, opsAt_cons, consOpt_some, List.getElem?_toArray, List.getElem?_cons_zero, List.getElem?_cons_succ]
  go_wp2_with (go_at_call 45; refine (LA _).mono ?_; rintro e w6 ⟨rfl, hb6⟩)
  have hb46 := hb45.trans (hb6.mono hb45.size)
  refine onlyNormal_mk ⟨⟨⟨_, hb46⟩, rfl⟩, ?_⟩
  have BW6 := BW w6 (hT.below (hb46.mono hB0)) (Nat.le_trans hB0 hb46.size)
  refine wpE_one (i := 13) rfl (by kernel_rfl) rfl ?_
  unfold wpMid
  simp only [opsAt_nil, opsAt_cons, consOpt_some, List.getElem?_toArray, List.getElem?_cons_zero, List.getElem?_cons_succ]
  go_wp2_with (go_at_call 44; refine BW6.mono ?_; rintro e w7 ⟨AM, cM, rfl, hrM, hb7⟩)
  have hb47 := hb46.trans (hb7.mono hb46.size)
  refine onlyNormal_mk ⟨⟨⟨_, hb47⟩, rfl⟩, ?_⟩
  refine wpE_tail rfl (by kernel_rfl) ?_
  simp only [opsAt_nil, opsAt_cons, consOpt_some, List.getElem?_toArray, List.getElem?_cons_zero, List.getElem?_cons_succ]
  go_wp2
  refine onlyNormal_mk ?_
  replace k3 := blk hb47 k3
  replace k4 := blk hb47 k4
  replace hT := hT.below (hb47.mono hB0)
  replace HB := Lib.hid (HB.out.trans (hb47.mono hs))
  replace hs := Nat.le_trans hs hb47.size
  replace hB0 := Nat.le_trans hB0 hb47.size
  clear hb47 hb46 hb45 hb7 hb6 hb5 hbd BW BW6 x0 x1 x2 x3 x4 y1 z0 d0 d1 d2 d3 d4 r0 r1 c0 hrL hbl LA hlb
  obtain ⟨r0, r1⟩ := cells2 k3
  have hbk := bk_bound (s := s) HP.out (by rw [HL.out]; exact hn1) np
  obtain ⟨bm, om, hAM, hbm, c0⟩ := hrM 0 (.int .i64 (bk pcs s np)) (by
    have := bkRow_at pcs s np 0 (by omega)
    rw [if_pos (by rw [HL.out]; omega), Nat.sub_zero, HL.out] at this
    simp [intCells, this])
  subst hAM
  have x0 := fun x : Xt w7 => x.cell r0
  have x1 := fun x : Xt w7 => x.cell c0
  clear r0 r1 c0
  simp only [Nat.add_zero] at x1
  go_upto_region 7 with (fail)
  by_cases hneg : bk pcs s np < 0
  case pos =>
    have hd1 : decide (bk pcs s np < 0) = true := decide_eq_true hneg
    refine wp_region_xt (by kernel_rfl) (by kernel_rfl) ?_
    repeat (go_big_quiet_step (fail))
    refine wpQuiet_nil ?_
    intro w8 hx
    have hb8 := Xt.below hx
    have HB8 := Lib.hid (HB.out.trans (hb8.mono hs))
    clear hx hb8 x0 x1
    go_wp2
    refine bodyPost_ret (v := .tuple #[.slice none 0 0, .int .i64 12]) (by simp [results, Try.results16, go_sem]) rfl ⟨.inr rfl, HB8.out⟩
  have hd1 : decide (bk pcs s np < 0) = false := decide_eq_false hneg
  refine wp_region_xt (by kernel_rfl) (by kernel_rfl) ?_
  repeat (go_big_quiet_step (fail))
  refine wpQuiet_nil ?_
  intro w8 hx
  have hb8 := Xt.below hx
  clear hx x0 x1
  have hMs : w7.heap.size ≤ w8.heap.size := hb8.size
  replace k3 := blk hb8 k3
  replace k4 := blk hb8 k4
  replace hrM := hrM.below hb8
  replace hT := hT.below (hb8.mono hB0)
  replace HB := Lib.hid (HB.out.trans (hb8.mono hs))
  replace hs := Nat.le_trans hs hb8.size
  replace hB0 := Nat.le_trans hB0 hb8.size
  clear hb8 hd1
  obtain ⟨r0, r1⟩ := cells2 k3
  obtain ⟨d0, d1, d2, d3, d4⟩ := cells5w k4
  have hbA : Below w8.heap.size w8 (w8.alloc (.cells #[.int .i64 0] 3)) := (Below.refl _ _).alloc (Nat.le_refl _) _
  have hone := own_one w8 0
  go_upto_region 10 with (fail)
  have k8 := k4
  replace k4 := blk hbA k4
  have HBF := Lib.hid hbA
  clear d0 d1 d2 d3 d4 r0 r1 k3
  obtain ⟨d0, d1, d2, d3, d4⟩ := cells5w k4
  have hs9 := hbA.size
  have hgl := (Array.getElem?_eq_some_iff.1 k4).1
  clear hbA
  generalize w8.alloc (.cells #[.int .i64 0] 3) = w9 at *
  go_wp2
  go_loopw [12, 67] (fun u12 u67 wr => FastRel w8 pcs s np u12 u67 wr) (fun _ u67 _ => np - (intOf u67).toNat)
  case atStart =>
    refine ⟨0, Nat.zero_le _, rfl, ?_, fun i hi => ?_, HBF.out⟩
    · have : (fsL pcs s).take (0 + 1) = [0] := by
        rw [List.take_add_one, fsL_at _ _ _ (by omega)]
        simp [fs]
      rw [this]
      exact hone
    · obtain rfl : i = 0 := by omega
      simp [fs]
  case round =>
    obtain ⟨k, hk, rfl, hown, hpos, hb⟩ := hrel
    have HOWN := Lib.hid hown
    obtain ⟨Au, cu, rfl⟩ := rowForm hown
    have HPOS := Lib.hid hpos
    have HBR := Lib.hid hb
    have hsr := hb.size
    have kR := blk hb k8
    have hrMR := hrM.below (hb.mono hMs)
    have hTR := hT.below (hb.mono hB0)
    have hcur := rd_own hown
    clear hown hpos hb d0 d1 d2 d3 d4
    obtain ⟨d0, d1, d2, d3, d4⟩ := cells5w kR
    by_cases hlt : k < np
    · obtain ⟨p, hp⟩ : ∃ p, pcs[k]? = some p := ⟨_, List.getElem?_eq_getElem (by rw [HL.out]; exact hlt)⟩
      obtain ⟨bu, ou, hAu, _, e0⟩ := hcur k (.int .i64 (fs pcs s k)) (by
        have := fsL_at pcs s k (by rw [HL.out]; omega)
        rw [intCells, List.getElem?_map, List.getElem?_take, if_pos (by omega), this]
        rfl)
      subst hAu
      obtain ⟨b', o', hA', _, e1⟩ := hrMR (k + 1) (.int .i64 (bk pcs s (np - (k + 1)))) (by
        have := bkRow_at pcs s np (k + 1) (by rw [HL.out]; omega)
        rw [if_pos (by rw [HL.out]; omega), HL.out] at this
        rw [intCells, List.getElem?_map, this]
        rfl)
      cases hA'
      have HF : Hid (fs pcs s (k + 1) = min (bk pcs s (np - (k + 1))) (fs pcs s k + -(lose (-s.drive) p))) := by
        rw [Hid, fs, HL.out, gainAt, hp]
        rfl
      have hf0 := HPOS.out k (Nat.le_refl _)
      have hf1 := fs_le (s := s) HP.out (by rw [HL.out]; exact hn1) k
      have hb0 := bk_bound (s := s) HP.out (by rw [HL.out]; exact hn1) (np - (k + 1))
      have hlo := lose_bound (dec := -s.drive) (by have := hS.2.2.1; omega) (HP.out p (List.mem_of_getElem? hp))
      have DRi := fun (W : World) (h : TrkAt W B Ap np nm pcs) (hB : B ≤ W.heap.size) => DR W h hB k p hp
      have HL1 : Hid (∀ z, fs pcs s (k + 1) = z → intCells ((fsL pcs s).take (k + 1 + 1)) = intCells ((fsL pcs s).take (k + 1)) ++ [.int .i64 z]) := by
        intro z hz
        rw [take_snoc (fsL_at pcs s (k + 1) (by rw [HL.out]; omega)), hz, intCells, List.map_append]
        rfl
      have hk1n : k + 1 < np + 1 := by omega
      clear hp hcur hrMR DR
      generalize lose (-s.drive) p = lo at *
      generalize hfk : fs pcs s k = f0 at *
      generalize bk pcs s (np - (k + 1)) = b0 at *
      have HFK := Lib.hid hfk
      clear hfk
      go_upto_region 13 with (fail)
      have x0 := fun x : Xt wr => x.cell e0
      have x1 := fun x : Xt wr => x.cell e1
      have y0 := fun x : Xt wr => x.cell d0
      have y1 := fun x : Xt wr => x.cell d1
      have y2 := fun x : Xt wr => x.cell d2
      have y3 := fun x : Xt wr => x.cell d3
      have y4 := fun x : Xt wr => x.cell d4
      refine wp_region_eager [14] (fun w' => ∃ x : Xt wr, w' = x.1) (by kernel_rfl) ⟨⟨wr.drew, (Below.refl _ _).drew⟩, rfl⟩ ?_
      refine wpE_reads7 [0, 1, 2, 3, 4, 5, 6, 7, 8, 9, 10] 4 rfl (by kernel_rfl) ?_
      simp only [opsAt_nil, opsAt_cons, consOpt_some, List.getElem?_toArray, List.getElem?_cons_zero, List.getElem?_cons_succ]
      repeat (go_big_quiet_step (fail))
      refine wpQuiet_nil ?_
      have hbd : Below wr.heap.size wr wr.drew := (Below.refl _ _).drew
      show wpE _ _ _ _ _ _ _ _ _ wr.drew
      generalize wr.drew = wd2 at *
      clear x0 x1 y0 y1 y2 y3 y4 e0 e1 d0 d1 d2 d3 d4
      have hBr : B ≤ wr.heap.size := Nat.le_trans hB0 hsr
      have DR5 := DRi wd2 (hTR.below (hbd.mono hBr)) (Nat.le_trans hBr hbd.size)
      refine wpE_one (i := 11) rfl (by kernel_rfl) rfl ?_
      unfold wpMid
      simp only [opsAt_nil, opsAt_cons, consOpt_some, List.getElem?_toArray, List.getElem?_cons_zero, List.getElem?_cons_succ]
      go_wp2_with (go_at_call 46; refine DR5.mono ?_; rintro e w10 ⟨rfl, hb10⟩)
      have hb45 := hbd.trans (hb10.mono hbd.size)
      refine onlyNormal_mk ⟨⟨⟨_, hb45⟩, rfl⟩, ?_⟩
      refine wpE_reads7 [12, 13] 1 rfl (by kernel_rfl) ?_
      simp only [opsAt_nil, opsAt_cons, consOpt_some, List.getElem?_toArray, List.getElem?_cons_zero, List.getElem?_cons_succ]
      repeat (go_big_quiet_step (fail))
      refine wpQuiet_nil ?_
      obtain ⟨v, hv⟩ : ∃ v, min b0 (f0 + -lo) = v := ⟨_, rfl⟩
      have hvb : -80000000000 ≤ v ∧ v ≤ 20000000000 := by omega
      have HV := Lib.hid hv
      first | rw [hv] | rw [show f0 - lo = f0 + -lo by omega, hv]
      clear hv
      refine wpE_tail rfl (by kernel_rfl) ?_
      simp only [opsAt_nil, opsAt_cons, consOpt_some, List.getElem?_toArray, List.getElem?_cons_zero, List.getElem?_cons_succ]
      go_wp2
      refine onlyNormal_mk ?_
      have HOW10 := Lib.hid (own_keep HOWN.out fun b cur hc => hb45.block b (Array.getElem?_eq_some_iff.1 hc).1)
      have HB10 := Lib.hid (HBR.out.trans (hb45.mono hsr))
      have hs10 : w8.heap.size ≤ w10.heap.size := Nat.le_trans hsr hb45.size
      clear hb45 hb10 hbd DR5 DRi HOWN HBR
      by_cases hneg2 : v < 0
      · go_wp2
        refine bodyPost_ret (v := .tuple #[.slice none 0 0, .int .i64 12]) (by simp [results, Try.results16, go_sem]) rfl ⟨.inr rfl, HB.out.trans (HB10.out.mono hs)⟩
      · have hba : Below w10.heap.size w10 (w10.alloc (.cells #[.int .i64 v] 3)) := (Below.refl _ _).alloc (Nat.le_refl _) _
        go_wp2_with (at_builtin; refine stp ?_)
        unfold Stp
        refine wpList_append_lies _ rfl _ _ 30 rfl w8.heap.size 3 i1 _ 1 8 Try.underlying30 hi1 hy0 hy1 hy2 rfl (by omega) (.slice (some ⟨bu, ou, none⟩) (k + 1) cu) (k + 1) (intCells ((fsL pcs s).take (k + 1))) rfl (HOW10.out.alloc _) ⟨w10.heap.size, 0, none⟩ 1 1 [.int .i64 v] rfl rfl (news1 (by simp)) (by simp [Value.oneCell']) (by omega) (by simp only [maxLen]; omega) (by omega) (by simp; omega) _ rfl ?_
        intro gg cap w11 hown1 hgrow hat hlt11
        have hb11 : Below w8.heap.size w8 w11 := (HB10.out.trans (hba.mono hs10)).grown hgrow (by have := hba.size; omega) (fun k hk => (ownBlk HOW10.out hk).1)
        have HFV : Hid (fs pcs s (k + 1) = v) := by rw [Hid, HF.out, HV.out]
        have HOWN1 : Hid (w11.ownsRow w8.heap.size 3 1 (.slice (some ⟨gg, 0, none⟩) (k + 1 + 1) cap) (k + 1 + 1) (intCells ((fsL pcs s).take (k + 1 + 1)))) := by
          rw [Hid, HL1.out v HFV.out]
          exact hown1
        have HB11 := Lib.hid hb11
        clear hown1 hgrow hat hlt11 hb11 hba
        go_wp2
        go_roundw
        case rel =>
          refine ⟨k + 1, by omega, by go_num, HOWN1.out, fun j hj => ?_, HB11.out⟩
          rcases Nat.lt_or_ge j (k + 1) with h9 | h9
          · exact HPOS.out j (by omega)
          · obtain rfl : j = k + 1 := by omega
            rw [HFV.out]
            omega
        case measure => simp [intOf]; omega
    · obtain rfl : k = np := by omega
      have HFL : Hid ((fsL pcs s).take (k + 1) = fsL pcs s) := by
        rw [Hid, List.take_of_length_le (by rw [fsL_len, HL.out]; exact Nat.le_refl _)]
      clear hcur hrMR DR
      go_wp2
      refine bodyPost_ret (v := .tuple #[.slice Au (k + 1) cu, .int .i64 0]) (by simp [results, Try.results16, go_sem]) rfl ⟨.inl ⟨Au, cu, rfl, ?_, HPOS.out⟩, HB.out.trans (HBR.out.mono hs)⟩
      have h9 := rd_own HOWN.out
      rw [HFL.out] at h9
      exact h9
end Go.Proofs.Ytnnnpijepdjanaa

namespace Go.Proofs.Ytnnnpijepdjanaa
open Go.RowKit

/-- squares that can be run, so far -/
def RunTo (pcs : List Pc) (s : Sy) (l : List Int) (k : Nat) : Prop :=
  ∀ i, i < k → ∀ n, l[i]? = some n → n ≤ limA pcs i ∧ ∀ j m p, i = j + 1 → l[j]? = some m → pcs[j]? = some p → m - lose s.brake p ≤ n ∧ n ≤ m + -(lose (-s.drive) p)
def CsPost (w : World) (pcs : List Pc) (s : Sy) (np : Nat) (l : List Int) (e : Ending) (w' : World) : Prop :=
  ((∃ a : Int, e = .returned (.tuple #[.int .i64 a, .int .i64 0]) ∧ RunTo pcs s l (np + 1)) ∨ ∃ a : Int, e = .returned (.tuple #[.int .i64 a, .int .i64 24])) ∧ Below w.heap.size w w'
def CsRel (w0 : World) (pcs : List Pc) (s : Sy) (np : Nat) (l : List Int) (u : Value) (wr : World) : Prop :=
  ∃ k : Nat, k ≤ np + 1 ∧ u = .int .i64 k ∧ RunTo pcs s l k ∧ Below w0.heap.size w0 wr
set_option maxRecDepth 100000 in
set_option maxHeartbeats 8000000 in
theorem CheckSquares_any (w : World) (B : Nat) (Ap : Option Addr) (np cp : Nat) (nm : ByteArray) (pcs : List Pc) (s : Sy) (h : TrkAt w B Ap np nm pcs) (hB : B ≤ w.heap.size) (hcp : np ≤ cp) (hS : SyR s) (Al : Option Addr) (cl : Nat) (l : List Int) (hl : Rd w B Al (intCells l)) (hlR : SqR np l) :
    Calls Try.prog 19 #[trackV nm Ap np cp, syV s, .slice Al (np + 1) cl] w (CsPost w pcs s np l) := by
  have hn1 : 1 ≤ np := by rw [← h.lp]; exact h.R.l1
  have hn12 : np ≤ 12 := by rw [← h.lp]; exact h.R.l2
  have HL := Lib.hid h.lp
  have HP := Lib.hid h.R.p
  have HLR := Lib.hid hlR
  have OP := fun (W : World) (h : TrkAt W B Ap np nm pcs) (hB : B ≤ W.heap.size) => openRide_right W B Ap np cp nm pcs s h hB hS
  have LM := fun (W : World) (h : TrkAt W B Ap np nm pcs) (hB : B ≤ W.heap.size) => limits_any W B Ap np cp nm pcs h hB hcp
  have SE := fun (W : World) (h : Rd W B Al (intCells l)) (hB : B ≤ W.heap.size) => squaresErr_right W B nm Ap np cp Al cl l (by omega) h hB hlR
  have BR := fun (W : World) (h : TrkAt W B Ap np nm pcs) (hB : B ≤ W.heap.size) (i : Nat) (p : Pc) (hi : pcs[i]? = some p) => braked_any W B Ap np cp nm pcs s h hB hS i p hi
  have DR := fun (W : World) (h : TrkAt W B Ap np nm pcs) (hB : B ≤ W.heap.size) (i : Nat) (p : Pc) (hi : pcs[i]? = some p) => driven_any W B Ap np cp nm pcs s h hB hS i p hi
  have hb0 : Below w.heap.size w (((w.alloc (.cells #[.string nm, .slice Ap np cp] 42)).alloc (.cells #[.int .i64 s.brake, .int .i64 s.drag, .int .i64 s.drive] 44))) := ((Below.refl _ _).alloc (Nat.le_refl _) _).alloc (by simp) _
  have k1 : (((w.alloc (.cells #[.string nm, .slice Ap np cp] 42)).alloc (.cells #[.int .i64 s.brake, .int .i64 s.drag, .int .i64 s.drive] 44))).heap[w.heap.size]? = some (.cells #[.string nm, .slice Ap np cp] 42 (0, 0)) := by
    rw [heapq_alloc, if_neg (by simp), heapq_alloc, if_pos rfl]
  have k2 : (((w.alloc (.cells #[.string nm, .slice Ap np cp] 42)).alloc (.cells #[.int .i64 s.brake, .int .i64 s.drag, .int .i64 s.drive] 44))).heap[w.heap.size + 1]? = some (.cells #[.int .i64 s.brake, .int .i64 s.drag, .int .i64 s.drive] 44 (0, 0)) := by
    rw [heapq_alloc, if_pos (by simp)]
  have hT := h.below (hb0.mono hB)
  have hl0 := hl.below (hb0.mono hB)
  have hB0 := Nat.le_trans hB hb0.size
  have hs := hb0.size
  have HB := Lib.hid hb0
  clear hb0 h hl hlR
  unfold trackV at OP LM SE ⊢
  unfold rideV at OP BR DR
  unfold syV at OP ⊢
  go_enter Try.func19, Try.ntmps19
  go_upto_region 1 with (fail)
  generalize (((w.alloc (.cells #[.string nm, .slice Ap np cp] 42)).alloc (.cells #[.int .i64 s.brake, .int .i64 s.drag, .int .i64 s.drive] 44))) = w0 at *
  obtain ⟨d0, d1⟩ := cells2 k1
  obtain ⟨e0, e1, e2⟩ := cells3w k2
  go_upto_region 2 with (go_at_call 39; refine (OP _ hT hB0).mono ?_; rintro e w1 ⟨rfl, hb1⟩)
  have hbA := hb1.alloc hb1.size (.cells #[.string nm, .slice Ap np cp, .int .i64 s.brake, .int .i64 s.drag, .int .i64 s.drive] 99)
  have k4 : (w1.alloc (.cells #[.string nm, .slice Ap np cp, .int .i64 s.brake, .int .i64 s.drag, .int .i64 s.drive] 99)).heap[w1.heap.size]? = some (.cells #[.string nm, .slice Ap np cp, .int .i64 s.brake, .int .i64 s.drag, .int .i64 s.drive] 99 (0, 0)) := by rw [heapq_alloc, if_pos rfl]
  replace hT := hT.below (hbA.mono hB0)
  replace hl0 := hl0.below (hbA.mono hB0)
  replace HB := Lib.hid (HB.out.trans (hbA.mono hs))
  replace hs := Nat.le_trans hs hbA.size
  replace hB0 := Nat.le_trans hB0 hbA.size
  clear hb1 hbA OP d0 d1 e0 e1 e2 k1 k2
  generalize w1.alloc (.cells #[.string nm, .slice Ap np cp, .int .i64 s.brake, .int .i64 s.drag, .int .i64 s.drive] 99) = w2 at *
  generalize w1.heap.size = g at *
  obtain ⟨d0, d1, d2, d3, d4⟩ := cells5w k4
  go_upto_region 3 with (first | (go_at_call 48; refine (SE _ hl0 hB0).mono ?_; rintro e w3 ⟨rfl, hb3⟩; have F2 := bkFirst2 w3) | (go_at_call 40; refine F2.mono ?_; rintro e w' ⟨rfl, rfl⟩))
  have hbA := hb3.alloc hb3.size (.cells #[.int .i64 0, .int .i64 0] 31)
  replace k4 := blk hbA k4
  replace hT := hT.below (hbA.mono hB0)
  replace hl0 := hl0.below (hbA.mono hB0)
  replace HB := Lib.hid (HB.out.trans (hbA.mono hs))
  replace hs := Nat.le_trans hs hbA.size
  replace hB0 := Nat.le_trans hB0 hbA.size
  clear hbA hb3 F2 SE d0 d1 d2 d3 d4
  generalize w3.alloc (.cells #[.int .i64 0, .int .i64 0] 31) = w4 at *
  obtain ⟨d0, d1, d2, d3, d4⟩ := cells5w k4
  go_upto_region 6 with (go_at_call 43; refine (LM _ hT hB0).mono ?_; rintro e w5 ⟨AL, cL, rfl, hrL, hb5⟩)
  replace k4 := blk hb5 k4
  replace hT := hT.below (hb5.mono hB0)
  replace hl0 := hl0.below (hb5.mono hB0)
  replace HB := Lib.hid (HB.out.trans (hb5.mono hs))
  replace hs := Nat.le_trans hs hb5.size
  replace hB0 := Nat.le_trans hB0 hb5.size
  clear hb5 LM d0 d1 d2 d3 d4
  go_wp2
  go_loopw [34] (fun u wr => CsRel w5 pcs s np l u wr) (fun u _ => np + 1 - (intOf u).toNat)
  case atStart => exact ⟨0, Nat.zero_le _, rfl, fun i hi => by omega, Below.refl _ _⟩
  case round =>
    obtain ⟨k, hk, rfl, hok, hb⟩ := hrel
    have HOK := Lib.hid hok
    have HBR := Lib.hid hb
    have hsr := hb.size
    have kR := blk hb k4
    have hTR := hT.below (hb.mono hB0)
    have hlR := hl0.below (hb.mono hB0)
    have hrLR := hrL.below hb
    have hBr : B ≤ wr.heap.size := Nat.le_trans hB0 hsr
    clear hok hb
    by_cases hlt : k < np + 1
    · have hltI : (k : Int) < (np : Int) + 1 := by omega
      obtain ⟨n, hn⟩ : ∃ n, l[k]? = some n := ⟨_, List.getElem?_eq_getElem (by rw [HLR.out.1]; exact hlt)⟩
      obtain ⟨bl, ol, hAl, _, e0⟩ := hlR k (.int .i64 n) (by simp [intCells, hn])
      obtain ⟨bL, oL, hAL, _, e1⟩ := hrLR k (.int .i64 (limA pcs k)) (by simp [intCells, limL_at pcs k (by rw [HL.out]; exact hlt)])
      subst hAl hAL
      have hnb := HLR.out.2 n (List.mem_of_getElem? hn)
      have HN := Lib.hid hn
      obtain ⟨d0, d1, d2, d3, d4⟩ := cells5w kR
      generalize hli : limA pcs k = li at *
      have HLI := Lib.hid hli
      clear hn hrLR hli
      go_upto_region 9 with (fail)
      have x0 := fun x : Xt wr => x.cell e1
      have y0 := fun x : Xt wr => x.cell d0
      have y1 := fun x : Xt wr => x.cell d1
      have y2 := fun x : Xt wr => x.cell d2
      have y3 := fun x : Xt wr => x.cell d3
      have y4 := fun x : Xt wr => x.cell d4
      by_cases hbig : li < n
      · have hd1 : decide (li < n) = true := decide_eq_true hbig
        clear BR DR hlR
        refine wp_region_eager [34] (fun w' => ∃ x : Xt wr, w' = x.1) (by kernel_rfl) ⟨⟨wr.drew, (Below.refl _ _).drew⟩, rfl⟩ ?_
        refine wpE_reads7 [0, 1, 2, 3, 4, 5, 6, 7, 8, 9, 10, 11, 12, 13, 14, 15, 16, 17, 18, 21, 22, 23, 24, 25, 26, 27, 28] 8 rfl (by kernel_rfl) ?_
        simp only [opsAt_nil, opsAt_cons, consOpt_some, List.getElem?_toArray, List.getElem?_cons_zero, List.getElem?_cons_succ]
        repeat (go_big_quiet_step (fail))
        refine wpQuiet_nil ?_
        have hbd : Below wr.heap.size wr wr.drew := (Below.refl _ _).drew
        show wpE _ _ _ _ _ _ _ _ _ wr.drew
        generalize wr.drew = wd at *
        clear x0 y0 y1 y2 y3 y4 e0 e1 d0 d1 d2 d3 d4
        have hb46 := hbd
        refine wpE_one (i := 19) rfl (by kernel_rfl) rfl ?_
        unfold wpMid
        simp only [opsAt_nil, opsAt_cons, consOpt_some, List.getElem?_toArray, List.getElem?_cons_zero, List.getElem?_cons_succ]
        go_wp2
        refine onlyNormal_mk ⟨⟨⟨_, hb46⟩, rfl⟩, ?_⟩
        refine wpE_reads7 [20] 6 rfl (by kernel_rfl) ?_
        simp only [opsAt_nil, opsAt_cons, consOpt_some, List.getElem?_toArray, List.getElem?_cons_zero, List.getElem?_cons_succ]
        repeat (go_big_quiet_step (fail))
        refine wpQuiet_nil ?_
        refine wpE_one (i := 29) rfl (by kernel_rfl) rfl ?_
        unfold wpMid
        simp only [opsAt_nil, opsAt_cons, consOpt_some, List.getElem?_toArray, List.getElem?_cons_zero, List.getElem?_cons_succ]
        go_wp2
        refine onlyNormal_mk ⟨⟨⟨_, hb46⟩, rfl⟩, ?_⟩
        refine wpE_reads7 [30] 4 rfl (by kernel_rfl) ?_
        simp only [opsAt_nil, opsAt_cons, consOpt_some, List.getElem?_toArray, List.getElem?_cons_zero, List.getElem?_cons_succ]
        repeat (go_big_quiet_step (fail))
        refine wpQuiet_nil ?_
        refine wpE_one (i := 31) rfl (by kernel_rfl) rfl ?_
        unfold wpMid
        simp only [opsAt_nil, opsAt_cons, consOpt_some, List.getElem?_toArray, List.getElem?_cons_zero, List.getElem?_cons_succ]
        go_wp2
        refine onlyNormal_mk ⟨⟨⟨_, hb46⟩, rfl⟩, ?_⟩
        refine wpE_reads7 [32, 33] 1 rfl (by kernel_rfl) ?_
        simp only [opsAt_nil, opsAt_cons, consOpt_some, List.getElem?_toArray, List.getElem?_cons_zero, List.getElem?_cons_succ]
        repeat (go_big_quiet_step (fail))
        refine wpQuiet_nil ?_
        refine wpE_tail rfl (by kernel_rfl) ?_
        simp only [opsAt_nil, opsAt_cons, consOpt_some, List.getElem?_toArray, List.getElem?_cons_zero, List.getElem?_cons_succ]
        go_wp2
        refine onlyNormal_mk ?_
        have HB6 := Lib.hid (HBR.out.trans (hb46.mono hsr))
        clear hb46 hbd 
        go_wp2
        refine bodyPost_ret (v := .tuple #[.int .i64 k, .int .i64 24]) (by simp [results, Try.results19, go_sem]) rfl ⟨.inr ⟨k, rfl⟩, HB.out.trans (HB6.out.mono hs)⟩
      have hd1 : decide (li < n) = false := decide_eq_false hbig
      have HLE : Hid (n ≤ li) := by rw [Hid]; omega
      by_cases hk0 : k = 0
      · subst hk0
        simp only [Nat.add_zero] at x0
        clear BR DR hlR hbig
        refine wp_region_eager [34] (fun w' => ∃ x : Xt wr, w' = x.1) (by kernel_rfl) ⟨⟨wr.drew, (Below.refl _ _).drew⟩, rfl⟩ ?_
        refine wpE_reads7 [0, 1, 2, 3, 4, 5, 6, 7, 8, 9, 10, 11, 12, 13, 14, 15, 16, 17, 18, 21, 22, 23, 24, 25, 26, 27, 28] 8 rfl (by kernel_rfl) ?_
        simp only [opsAt_nil, opsAt_cons, consOpt_some, List.getElem?_toArray, List.getElem?_cons_zero, List.getElem?_cons_succ]
        repeat (go_big_quiet_step (fail))
        refine wpQuiet_nil ?_
        have hbd : Below wr.heap.size wr wr.drew := (Below.refl _ _).drew
        show wpE _ _ _ _ _ _ _ _ _ wr.drew
        generalize wr.drew = wd at *
        clear x0 y0 y1 y2 y3 y4 e0 e1 d0 d1 d2 d3 d4
        have hb46 := hbd
        refine wpE_one (i := 19) rfl (by kernel_rfl) rfl ?_
        unfold wpMid
        simp only [opsAt_nil, opsAt_cons, consOpt_some, List.getElem?_toArray, List.getElem?_cons_zero, List.getElem?_cons_succ]
        go_wp2
        refine onlyNormal_mk ⟨⟨⟨_, hb46⟩, rfl⟩, ?_⟩
        refine wpE_reads7 [20] 6 rfl (by kernel_rfl) ?_
        simp only [opsAt_nil, opsAt_cons, consOpt_some, List.getElem?_toArray, List.getElem?_cons_zero, List.getElem?_cons_succ]
        repeat (go_big_quiet_step (fail))
        refine wpQuiet_nil ?_
        refine wpE_one (i := 29) rfl (by kernel_rfl) rfl ?_
        unfold wpMid
        simp only [opsAt_nil, opsAt_cons, consOpt_some, List.getElem?_toArray, List.getElem?_cons_zero, List.getElem?_cons_succ]
        go_wp2
        refine onlyNormal_mk ⟨⟨⟨_, hb46⟩, rfl⟩, ?_⟩
        refine wpE_reads7 [30] 4 rfl (by kernel_rfl) ?_
        simp only [opsAt_nil, opsAt_cons, consOpt_some, List.getElem?_toArray, List.getElem?_cons_zero, List.getElem?_cons_succ]
        repeat (go_big_quiet_step (fail))
        refine wpQuiet_nil ?_
        refine wpE_one (i := 31) rfl (by kernel_rfl) rfl ?_
        unfold wpMid
        simp only [opsAt_nil, opsAt_cons, consOpt_some, List.getElem?_toArray, List.getElem?_cons_zero, List.getElem?_cons_succ]
        go_wp2
        refine onlyNormal_mk ⟨⟨⟨_, hb46⟩, rfl⟩, ?_⟩
        refine wpE_reads7 [32, 33] 1 rfl (by kernel_rfl) ?_
        simp only [opsAt_nil, opsAt_cons, consOpt_some, List.getElem?_toArray, List.getElem?_cons_zero, List.getElem?_cons_succ]
        repeat (go_big_quiet_step (fail))
        refine wpQuiet_nil ?_
        refine wpE_tail rfl (by kernel_rfl) ?_
        simp only [opsAt_nil, opsAt_cons, consOpt_some, List.getElem?_toArray, List.getElem?_cons_zero, List.getElem?_cons_succ]
        go_wp2
        refine onlyNormal_mk ?_
        have HB6 := Lib.hid (HBR.out.trans (hb46.mono hsr))
        clear hb46 hbd 
        go_wp2
        go_roundw
        case rel =>
          refine ⟨1, by omega, by go_num, ?_, HB6.out⟩
          intro i hi m hm
          obtain rfl : i = 0 := by omega
          rw [HN.out] at hm
          cases hm
          exact ⟨by rw [HLI.out]; exact HLE.out, fun j _ _ hj => by omega⟩
        case measure => simp [intOf]
      · obtain ⟨j, rfl⟩ : ∃ j, k = j + 1 := ⟨k - 1, by omega⟩
        obtain ⟨m, hm⟩ : ∃ m, l[j]? = some m := ⟨_, List.getElem?_eq_getElem (by rw [HLR.out.1]; omega)⟩
        obtain ⟨p, hp⟩ : ∃ p, pcs[j]? = some p := ⟨_, List.getElem?_eq_getElem (by rw [HL.out]; omega)⟩
        obtain ⟨bl', ol', hAl', _, e2⟩ := hlR j (.int .i64 m) (by simp [intCells, hm])
        cases hAl'
        have x2 := fun x : Xt wr => x.cell e2
        have hmb := HLR.out.2 m (List.mem_of_getElem? hm)
        have hlo1 := lose_bound (dec := s.brake) (by have := hS.1; omega) (HP.out p (List.mem_of_getElem? hp))
        have hlo2 := lose_bound (dec := -s.drive) (by have := hS.2.2.1; omega) (HP.out p (List.mem_of_getElem? hp))
        have BRi := fun (W : World) (h : TrkAt W B Ap np nm pcs) (hB : B ≤ W.heap.size) => BR W h hB j p hp
        have DRi := fun (W : World) (h : TrkAt W B Ap np nm pcs) (hB : B ≤ W.heap.size) => DR W h hB j p hp
        have HPM := Lib.hid (And.intro hp hm)
        have hj1 : (((j + 1 : Nat) : Int) - 1) = (j : Int) := by omega
        have hjn : j < np + 1 := by omega
        have hj12 : j ≤ 12 := by omega
        clear hp hm BR DR hlR hk0 hbig
        generalize hA1 : lose s.brake p = b1 at *
        generalize hA2 : lose (-s.drive) p = b2 at *
        have HA := Lib.hid (And.intro hA1 hA2)
        clear hA1 hA2
        obtain ⟨bw, hbw⟩ : ∃ b, withinB n (m - b1) (m + -b2) = b := ⟨_, rfl⟩
        have WI := fun W => bkWithin_val n (m - b1) (m + -b2) bw hbw W
        have HBW := Lib.hid hbw
        clear hbw
        cases bw with
        | false =>
          refine wp_region_eager [34] (fun w' => ∃ x : Xt wr, w' = x.1) (by kernel_rfl) ⟨⟨wr.drew, (Below.refl _ _).drew⟩, rfl⟩ ?_
          refine wpE_reads7 [0, 1, 2, 3, 4, 5, 6, 7, 8, 9, 10, 11, 12, 13, 14, 15, 16, 17, 18, 21, 22, 23, 24, 25, 26, 27, 28] 8 rfl (by kernel_rfl) ?_
          simp only [opsAt_nil, opsAt_cons, consOpt_some, List.getElem?_toArray, List.getElem?_cons_zero, List.getElem?_cons_succ]
          repeat (go_big_quiet_step (fail))
          refine wpQuiet_nil ?_
          have hbd : Below wr.heap.size wr wr.drew := (Below.refl _ _).drew
          show wpE _ _ _ _ _ _ _ _ _ wr.drew
          generalize wr.drew = wd at *
          clear x0 x2 y0 y1 y2 y3 y4 e0 e1 e2 d0 d1 d2 d3 d4
          have BR5 := BRi wd (hTR.below (hbd.mono hBr)) (Nat.le_trans hBr hbd.size)
          refine wpE_one (i := 19) rfl (by kernel_rfl) rfl ?_
          unfold wpMid
          simp only [opsAt_nil, opsAt_cons, consOpt_some, List.getElem?_toArray, List.getElem?_cons_zero, List.getElem?_cons_succ]
          go_wp2_with (go_at_call 51; refine BR5.mono ?_; rintro e w5 ⟨rfl, hb5⟩)
          have hb45 := hbd.trans (hb5.mono hbd.size)
          refine onlyNormal_mk ⟨⟨⟨_, hb45⟩, rfl⟩, ?_⟩
          refine wpE_reads7 [20] 6 rfl (by kernel_rfl) ?_
          simp only [opsAt_nil, opsAt_cons, consOpt_some, List.getElem?_toArray, List.getElem?_cons_zero, List.getElem?_cons_succ]
          repeat (go_big_quiet_step (fail))
          refine wpQuiet_nil ?_
          have DR5 := DRi w5 (hTR.below (hb45.mono hBr)) (Nat.le_trans hBr hb45.size)
          refine wpE_one (i := 29) rfl (by kernel_rfl) rfl ?_
          unfold wpMid
          simp only [opsAt_nil, opsAt_cons, consOpt_some, List.getElem?_toArray, List.getElem?_cons_zero, List.getElem?_cons_succ]
          go_wp2_with (go_at_call 46; refine DR5.mono ?_; rintro e w6 ⟨rfl, hb6⟩)
          have hb46 := hb45.trans (hb6.mono hb45.size)
          refine onlyNormal_mk ⟨⟨⟨_, hb46⟩, rfl⟩, ?_⟩
          refine wpE_reads7 [30] 4 rfl (by kernel_rfl) ?_
          simp only [opsAt_nil, opsAt_cons, consOpt_some, List.getElem?_toArray, List.getElem?_cons_zero, List.getElem?_cons_succ]
          repeat (go_big_quiet_step (fail))
          refine wpQuiet_nil ?_
          refine wpE_one (i := 31) rfl (by kernel_rfl) rfl ?_
          unfold wpMid
          simp only [opsAt_nil, opsAt_cons, consOpt_some, List.getElem?_toArray, List.getElem?_cons_zero, List.getElem?_cons_succ]
          go_wp2_with (go_at_call 50; refine (WI _).mono ?_; rintro e w' ⟨rfl, rfl⟩)
          refine onlyNormal_mk ⟨⟨⟨_, hb46⟩, rfl⟩, ?_⟩
          refine wpE_reads7 [32, 33] 1 rfl (by kernel_rfl) ?_
          simp only [opsAt_nil, opsAt_cons, consOpt_some, List.getElem?_toArray, List.getElem?_cons_zero, List.getElem?_cons_succ]
          repeat (go_big_quiet_step (fail))
          refine wpQuiet_nil ?_
          refine wpE_tail rfl (by kernel_rfl) ?_
          simp only [opsAt_nil, opsAt_cons, consOpt_some, List.getElem?_toArray, List.getElem?_cons_zero, List.getElem?_cons_succ]
          go_wp2
          refine onlyNormal_mk ?_
          have HB6 := Lib.hid (HBR.out.trans (hb46.mono hsr))
          clear hb46 hbd hb45 hb5 hb6 BR5 DR5 BRi DRi WI
          go_wp2
          refine bodyPost_ret (v := .tuple #[.int .i64 ((j : Int) + 1), .int .i64 24]) (by simp [results, Try.results19, go_sem]) rfl ⟨.inr ⟨_, rfl⟩, HB.out.trans (HB6.out.mono hs)⟩
        | true =>
          refine wp_region_eager [34] (fun w' => ∃ x : Xt wr, w' = x.1) (by kernel_rfl) ⟨⟨wr.drew, (Below.refl _ _).drew⟩, rfl⟩ ?_
          refine wpE_reads7 [0, 1, 2, 3, 4, 5, 6, 7, 8, 9, 10, 11, 12, 13, 14, 15, 16, 17, 18, 21, 22, 23, 24, 25, 26, 27, 28] 8 rfl (by kernel_rfl) ?_
          simp only [opsAt_nil, opsAt_cons, consOpt_some, List.getElem?_toArray, List.getElem?_cons_zero, List.getElem?_cons_succ]
          repeat (go_big_quiet_step (fail))
          refine wpQuiet_nil ?_
          have hbd : Below wr.heap.size wr wr.drew := (Below.refl _ _).drew
          show wpE _ _ _ _ _ _ _ _ _ wr.drew
          generalize wr.drew = wd at *
          clear x0 x2 y0 y1 y2 y3 y4 e0 e1 e2 d0 d1 d2 d3 d4
          have BR5 := BRi wd (hTR.below (hbd.mono hBr)) (Nat.le_trans hBr hbd.size)
          refine wpE_one (i := 19) rfl (by kernel_rfl) rfl ?_
          unfold wpMid
          simp only [opsAt_nil, opsAt_cons, consOpt_some, List.getElem?_toArray, List.getElem?_cons_zero, List.getElem?_cons_succ]
          go_wp2_with (go_at_call 51; refine BR5.mono ?_; rintro e w5 ⟨rfl, hb5⟩)
          have hb45 := hbd.trans (hb5.mono hbd.size)
          refine onlyNormal_mk ⟨⟨⟨_, hb45⟩, rfl⟩, ?_⟩
          refine wpE_reads7 [20] 6 rfl (by kernel_rfl) ?_
          simp only [opsAt_nil, opsAt_cons, consOpt_some, List.getElem?_toArray, List.getElem?_cons_zero, List.getElem?_cons_succ]
          repeat (go_big_quiet_step (fail))
          refine wpQuiet_nil ?_
          have DR5 := DRi w5 (hTR.below (hb45.mono hBr)) (Nat.le_trans hBr hb45.size)
          refine wpE_one (i := 29) rfl (by kernel_rfl) rfl ?_
          unfold wpMid
          simp only [opsAt_nil, opsAt_cons, consOpt_some, List.getElem?_toArray, List.getElem?_cons_zero, List.getElem?_cons_succ]
          go_wp2_with (go_at_call 46; refine DR5.mono ?_; rintro e w6 ⟨rfl, hb6⟩)
          have hb46 := hb45.trans (hb6.mono hb45.size)
          refine onlyNormal_mk ⟨⟨⟨_, hb46⟩, rfl⟩, ?_⟩
          refine wpE_reads7 [30] 4 rfl (by kernel_rfl) ?_
          simp only [opsAt_nil, opsAt_cons, consOpt_some, List.getElem?_toArray, List.getElem?_cons_zero, List.getElem?_cons_succ]
          repeat (go_big_quiet_step (fail))
          refine wpQuiet_nil ?_
          refine wpE_one (i := 31) rfl (by kernel_rfl) rfl ?_
          unfold wpMid
          simp only [opsAt_nil, opsAt_cons, consOpt_some, List.getElem?_toArray, List.getElem?_cons_zero, List.getElem?_cons_succ]
          go_wp2_with (go_at_call 50; refine (WI _).mono ?_; rintro e w' ⟨rfl, rfl⟩)
          refine onlyNormal_mk ⟨⟨⟨_, hb46⟩, rfl⟩, ?_⟩
          refine wpE_reads7 [32, 33] 1 rfl (by kernel_rfl) ?_
          simp only [opsAt_nil, opsAt_cons, consOpt_some, List.getElem?_toArray, List.getElem?_cons_zero, List.getElem?_cons_succ]
          repeat (go_big_quiet_step (fail))
          refine wpQuiet_nil ?_
          refine wpE_tail rfl (by kernel_rfl) ?_
          simp only [opsAt_nil, opsAt_cons, consOpt_some, List.getElem?_toArray, List.getElem?_cons_zero, List.getElem?_cons_succ]
          go_wp2
          refine onlyNormal_mk ?_
          have HB6 := Lib.hid (HBR.out.trans (hb46.mono hsr))
          clear hb46 hbd hb45 hb5 hb6 BR5 DR5 BRi DRi WI
          go_wp2
          go_roundw
          case rel =>
            refine ⟨j + 1 + 1, by omega, by go_num, ?_, HB6.out⟩
            intro i hi n' hn'
            rcases Nat.lt_or_ge i (j + 1) with h9 | h9
            · exact HOK.out i h9 n' hn'
            · obtain rfl : i = j + 1 := by omega
              rw [HN.out] at hn'
              cases hn'
              refine ⟨by rw [HLI.out]; exact HLE.out, fun j' m' p' hj' hm' hp' => ?_⟩
              obtain rfl : j' = j := by omega
              rw [HPM.out.2] at hm'
              rw [HPM.out.1] at hp'
              cases hm'
              cases hp'
              rw [HA.out.1, HA.out.2]
              exact withinB_iff.1 HBW.out
          case measure => simp [intOf]; omega
    · obtain rfl : k = np + 1 := by omega
      have hgt : ¬ (((np + 1 : Nat) : Int) < (np : Int) + 1) := by omega
      clear hrLR hlR BR DR
      go_wp2
      refine bodyPost_ret (v := .tuple #[.int .i64 0, .int .i64 0]) (by simp [results, Try.results19, go_sem]) rfl ⟨.inl ⟨0, rfl, HOK.out⟩, HB.out.trans (HBR.out.mono hs)⟩
end Go.Proofs.Ytnnnpijepdjanaa
