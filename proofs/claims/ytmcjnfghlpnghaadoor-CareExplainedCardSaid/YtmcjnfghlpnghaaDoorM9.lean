/- Rescue in the reference: the copy, the errors. Rescue in the reference: the error of depots, numbers. Rescue in the reference: behind what length a place is reached. The worst place of the reference is the worst place: plain. The fewest depots of the code and of the reference are the same: plain. The reference's WorstPlace. Sets of numbers in their order: plain. No place of the line is reached later than the worst one; the fewest depots are depots: plain. cmp.Compare, cmp.Or, slices.Compare at ints. WorstPlace where the rescue or the depots are wrong. FewestDepots. The reference's sets: all sets of so many of some numbers. The reference's FewestDepots. CareRescues: the walk. -/
import Derived.Test.YtmcjnfghlpnghaaDoorM8
import Derived.Test.YtmcjnfghlpnghaaDoorW6
import Derived.Test.YtmcjnfghlpnghaaDoorC1
import Derived.Test.YtmcjnfghlpnghaaDoorC2
import Derived.Test.YtmcjnfghlpnghaaDoorX1
namespace Go.Proofs.YtmcjnfghlpnghaaDoor
open Go.RowKit

theorem info143 : (Tryd.prog.info? 143).map (fun i => (i.zero, i.size, i.bytes)) = some (some (.agg #[.int .i64 0, .int .i64 0]), 2, 16) := by kernel_rfl
theorem depCells_one (l : List Dep) : ∀ u ∈ depCells l, u.oneCell' = true := by
  intro u hu
  simp only [depCells, List.mem_flatMap] at hu
  obtain ⟨x, _, hx⟩ := hu
  simp at hx
  rcases hx with rfl | rfl <;> rfl

def DepCopied (w : World) (L : Int) (l : List Dep) (n : Nat) (e : Ending) (w' : World) : Prop :=
  ∃ A c, e = .returned (.agg #[.int .i64 L, .slice A n c]) ∧ Rd w' w'.heap.size A (depCells l) ∧ Below w.heap.size w w'

set_option maxRecDepth 100000 in
set_option maxHeartbeats 4000000 in
theorem CopyRescue_any (w : World) (B : Nat) (L : Int) (A : Option Addr) (n c : Nat) (l : List Dep) (hl : l.length = n) (hn : n ≤ 1000000) (h : Rd w B A (depCells l)) (hB : B ≤ w.heap.size) :
    Calls Tryd.prog 69 #[.agg #[.int .i64 L, .slice A n c]] w (DepCopied w L l n) := by
  obtain ⟨i1, hi1, hy0, hy1, hy2⟩ := info_parts info143
  have hb0 : Below w.heap.size w ((w.alloc (.cells #[.int .i64 L, .slice A n c] 107)).alloc (.cells #[.int .i64 0, .slice none 0 0] 107)) := ((Below.refl _ _).alloc (Nat.le_refl _) _).alloc (by simp) _
  have k0 : ((w.alloc (.cells #[.int .i64 L, .slice A n c] 107)).alloc (.cells #[.int .i64 0, .slice none 0 0] 107)).heap[w.heap.size]? = some (.cells #[.int .i64 L, .slice A n c] 107 (0, 0)) := by
    rw [heapq_alloc, if_neg (by simp), heapq_alloc, if_pos rfl]
  have k1 : ((w.alloc (.cells #[.int .i64 L, .slice A n c] 107)).alloc (.cells #[.int .i64 0, .slice none 0 0] 107)).heap[w.heap.size + 1]? = some (.cells #[.int .i64 0, .slice none 0 0] 107 (0, 0)) := by
    rw [heapq_alloc, if_pos (by simp)]
  have h0 := h.below (hb0.mono hB)
  have hs1 := hb0.size
  have hx1 : w.heap.size + 1 < ((w.alloc (.cells #[.int .i64 L, .slice A n c] 107)).alloc (.cells #[.int .i64 0, .slice none 0 0] 107)).heap.size := by simp
  have HB := Lib.hid hb0
  have HL := Lib.hid hl
  have K1 := Lib.hid k1
  have a0 : ((w.alloc (.cells #[.int .i64 L, .slice A n c] 107)).alloc (.cells #[.int .i64 0, .slice none 0 0] 107)).cell? ⟨w.heap.size, 0, none⟩ = some (.int .i64 L) := (cell_of_row _ _ 0 _ _ _ k0).trans rfl
  have a1 : ((w.alloc (.cells #[.int .i64 L, .slice A n c] 107)).alloc (.cells #[.int .i64 0, .slice none 0 0] 107)).cell? ⟨w.heap.size, 1, none⟩ = some (.slice A n c) := (cell_of_row _ _ 1 _ _ _ k0).trans rfl
  have HX := Lib.hid hx1
  clear hl h hb0 k0 k1 hx1
  go_enter Tryd.func69, Tryd.ntmps69
  go_upto_region 1 with (fail)
  generalize ((w.alloc (.cells #[.int .i64 L, .slice A n c] 107)).alloc (.cells #[.int .i64 0, .slice none 0 0] 107)) = W0 at *
  have hBW : B ≤ W0.heap.size := Nat.le_trans hB hs1
  generalize hx : w.heap.size = x at *
  have HXX := Lib.hid hx
  clear hx
  have x0 := fun y : Xt W0 => y.cell a0
  have x1 := fun y : Xt W0 => y.cell a1
  refine wp_region_eager [6, 7] (fun w' => ∃ y : Xt W0, w' = y.1) (by kernel_rfl) ⟨⟨W0.drew, (Below.refl _ _).drew⟩, rfl⟩ ?_
  refine wpE_reads [0, 1, 3, 4] 4 rfl (by kernel_rfl) ?_
  simp only [opsAt_nil, opsAt_cons, consOpt_some, List.getElem?_toArray, List.getElem?_cons_zero, List.getElem?_cons_succ]
  repeat (go_big_quiet_step (fail))
  refine wpQuiet_nil ?_
  have hbd : Below W0.heap.size W0 W0.drew := (Below.refl _ _).drew
  show wpE _ _ _ _ _ _ _ _ _ W0.drew
  generalize W0.drew = wd at *
  clear x0 x1 a0 a1
  refine wpE_one (i := 2) rfl (by kernel_rfl) rfl ?_
  unfold wpMid
  simp only [opsAt_nil, opsAt_cons, consOpt_some, List.getElem?_toArray, List.getElem?_cons_zero, List.getElem?_cons_succ]
  go_wp2
  have hb03 : Below W0.heap.size W0 (wd.alloc (.cells #[] 143)) := hbd.alloc hbd.size _
  have gq : (wd.alloc (.cells #[] 143)).heap[wd.heap.size]? = some (.cells #[] 143 (0, 0)) := by rw [heapq_alloc, if_pos rfl]
  have hg : W0.heap.size ≤ wd.heap.size := hbd.size
  generalize wd.alloc (.cells #[] 143) = w3 at *
  generalize wd.heap.size = g at *
  refine onlyNormal_mk ⟨⟨⟨_, hb03⟩, rfl⟩, ?_⟩
  refine wpE_one (i := 5) rfl (by kernel_rfl) rfl ?_
  unfold wpMid
  simp only [opsAt_nil, opsAt_cons, consOpt_some, List.getElem?_toArray, List.getElem?_cons_zero, List.getElem?_cons_succ]
  have hrd := h0.below (hb03.mono hBW)
  have hgl := lt_of_block gq
  refine wpList_append_copy w3 rfl _ _ 105 rfl g 143 i1 _ 2 16 Tryd.underlying105 hi1 hy0 hy1 hy2 rfl (by omega) g rfl gq (Nat.le_refl _) B A n c (depCells l) rfl (by rw [depCells_len, HL.out]) hrd (depCells_one l) (by simp only [maxLen]; omega) (by omega) (Nat.le_of_lt hgl) ?_
  intro G cG w4 hown hgrow _
  have hb4 : Below W0.heap.size W0 w4 := hb03.grown hgrow hb03.size (fun k hk => by rw [← Option.some.inj hk]; exact hg)
  have hk4 := (hb4.block (x + 1) HX.out).trans K1.out
  have m4 : x + 1 ≠ G := ownBlk_ne hown rfl hk4 (by decide)
  have HOWN := Lib.hid hown
  refine onlyNormal_mk ⟨⟨⟨_, hb4⟩, rfl⟩, ?_⟩
  refine wpE_tail rfl (by kernel_rfl) ?_
  simp only [opsAt_nil, opsAt_cons, consOpt_some, List.getElem?_toArray, List.getElem?_cons_zero, List.getElem?_cons_succ]
  have t0 := cell_of_row w4 (x + 1) 0 _ _ _ hk4
  have t1 := cell_of_row w4 (x + 1) 1 _ _ _ hk4
  simp at t0 t1
  have q0 := frozen_of_row w4 (x + 1) 0 _ _ hk4
  have q1 := frozen_of_row w4 (x + 1) 1 _ _ hk4
  have HBE := Lib.hid (HB.out.trans (hb4.mono hs1))
  clear hrd hown hgrow hk4 gq
  go_wp2
  refine onlyNormal_mk ?_
  go_wp2
  refine bodyPost_ret (v := .agg #[.int .i64 L, .slice (some ⟨G, 0, none⟩) n cG]) (by simp [results, Tryd.results69, go_sem, t0, t1]) rfl ⟨_, cG, rfl, ?_, ?_⟩
  · exact Rd_of_own (ownsRow_setCell_other (ownsRow_setCell_other HOWN.out (by simp [Value.ownBlock]; omega) _) (by simp [Value.ownBlock]; omega) _)
  · rw [HXX.out]
    exact (HBE.out.setCell (p := ⟨x + 1, 0, none⟩) (Nat.le_add_right x 1) _).setCell (p := ⟨x + 1, 1, none⟩) (Nat.le_add_right x 1) _


def DepRel (w0 : World) (L : Int) (l : List Dep) (n : Nat) (tot : Bool) (u3 : Value) (wr : World) : Prop :=
  ∃ k : Nat, k ≤ n ∧ u3 = .int .i64 k ∧ (l.drop k).any (badDepB L) = tot ∧ Below w0.heap.size w0 wr

set_option maxRecDepth 100000 in
set_option maxHeartbeats 8000000 in
theorem RescueErr_any (w : World) (B : Nat) (L : Int) (A : Option Addr) (n c : Nat) (l : List Dep) (hl : l.length = n) (h : Rd w B A (depCells l)) (hB : B ≤ w.heap.size) :
    Calls Tryd.prog 71 #[.agg #[.int .i64 L, .slice A n c]] w (ErrVal w (rescueM L l)) := by
  have hb0 : Below w.heap.size w (w.alloc (.cells #[.int .i64 L, .slice A n c] 107)) := (Below.refl _ _).alloc (Nat.le_refl _) _
  have h0 := h.below (hb0.mono hB)
  have k0 : (w.alloc (.cells #[.int .i64 L, .slice A n c] 107)).heap[w.heap.size]? = some (.cells #[.int .i64 L, .slice A n c] 107 (0, 0)) := by rw [heapq_alloc, if_pos rfl]
  have c0 : (w.alloc (.cells #[.int .i64 L, .slice A n c] 107)).cell? ⟨w.heap.size, 0, none⟩ = some (.int .i64 L) := (cell_of_row _ _ 0 _ _ _ k0).trans rfl
  have c1 : (w.alloc (.cells #[.int .i64 L, .slice A n c] 107)).cell? ⟨w.heap.size, 1, none⟩ = some (.slice A n c) := (cell_of_row _ _ 1 _ _ _ k0).trans rfl
  have hs0 : w.heap.size ≤ (w.alloc (.cells #[.int .i64 L, .slice A n c] 107)).heap.size := hb0.size
  have hB0 := Nat.le_trans hB hs0
  have HL := Lib.hid hl
  have HB := Lib.hid hb0
  have HM : Hid (rescueM L l = seqE (firstE [unlessE (withinB L 0 1000000000) 2, unlessE (decide (0 < n)) 10, unlessE (decide ((n : Int) ≤ 8)) 8]) (unlessE (!l.any (badDepB L)) 2)) := by
    rw [Hid, rescueM, hl]
    rfl
  clear h hl hb0 k0
  cases q0 : withinB L 0 1000000000 with
  | false =>
    have HV : Hid (rescueM L l = 2) := by rw [Hid, HM.out, q0]; rfl
    have Q := fun W => Within_val L 0 1000000000 false q0 W
    clear q0
    go_enter Tryd.func71, Tryd.ntmps71
    go_upto_region 1 with (fail)
    generalize w.alloc (.cells #[.int .i64 L, .slice A n c] 107) = w0 at *
    go_wp2_with (go_at_call 49; refine (Q _).mono ?_; rintro e w' ⟨rfl, rfl⟩)
    go_ret
    exact ⟨by rw [HV.out]; rfl, HB.out⟩
  | true =>
    have Q := fun W => Within_val L 0 1000000000 true q0 W
    by_cases hn0 : n = 0
    · have HV : Hid (rescueM L l = 10) := by
        rw [Hid, HM.out, q0, hn0]
        rfl
      have e0 : ((n : Int) == 0) = true := by rw [hn0]; rfl
      clear q0 hn0
      go_enter Tryd.func71, Tryd.ntmps71
      go_upto_region 1 with (fail)
      generalize w.alloc (.cells #[.int .i64 L, .slice A n c] 107) = w0 at *
      go_wp2_with (go_at_call 49; refine (Q _).mono ?_; rintro e w' ⟨rfl, rfl⟩)
      go_ret
      exact ⟨by rw [HV.out]; rfl, HB.out⟩
    · have e0 : ((n : Int) == 0) = false := beq_eq_false_iff_ne.2 (by omega)
      have f1 : decide (0 < n) = true := decide_eq_true (by omega)
      by_cases hn8 : n ≤ 8
      · have g1 : ¬ (8 : Int) < (n : Int) := by omega
        have HV : Hid (rescueM L l = unlessE (!l.any (badDepB L)) 2) := by
          rw [Hid, HM.out, q0, f1, decide_eq_true (show (n : Int) ≤ 8 by omega)]
          rfl
        obtain ⟨tot, htot⟩ : ∃ t, l.any (badDepB L) = t := ⟨_, rfl⟩
        have HT := Lib.hid htot
        clear q0 hn0 f1 htot
        go_enter Tryd.func71, Tryd.ntmps71
        go_upto_region 1 with (fail)
        generalize w.alloc (.cells #[.int .i64 L, .slice A n c] 107) = w0 at *
        go_wp2_with (go_at_call 49; refine (Q _).mono ?_; rintro e w' ⟨rfl, rfl⟩)
        clear Q
        have C0 := Lib.hid c0
        have C1 := Lib.hid c1
        go_loopw [3] (fun u3 wr => DepRel w0 L l n tot u3 wr) (fun u3 _ => n - (intOf u3).toNat)
        case atStart => exact ⟨0, Nat.zero_le _, rfl, by rw [List.drop_zero]; exact HT.out, Below.refl _ _⟩
        case round =>
          clear c0 c1
          obtain ⟨k, hk, rfl, hany, hb⟩ := hrel
          have HAN := Lib.hid hany
          have HBK := Lib.hid hb
          have c0 := kept hb C0.out
          have c1 := kept hb C1.out
          have hsk := hb.size
          have hr := h0.below (hb.mono hB0)
          clear hb hany
          by_cases hkn : k < n
          · have hkl : k < l.length := by rw [HL.out]; exact hkn
            obtain ⟨ev, hev⟩ : ∃ ev, l[k]? = some ev := ⟨_, List.getElem?_eq_getElem hkl⟩
            obtain ⟨z0, z1⟩ := depCells_at l k ev hev
            obtain ⟨bb, off, rfl, hbB, e1, e2⟩ := hr.at2 z0 z1
            have HD := Lib.hid (drop_cons' hev)
            obtain ⟨p, q⟩ := ev
            simp only at e1 e2
            clear z0 z1 hev hkl hr
            have HBD : Hid (badDepB L (p, q) = (!withinB p 0 L || !withinB q 0 1000000000)) := rfl
            go_upto_region 10 with (fail)
            have x0 := fun y : Xt wr => y.cell c0
            have x1 := fun y : Xt wr => y.cell c1
            have x2 := fun y : Xt wr => y.cell e1
            have x3 := fun y : Xt wr => y.cell e2
            cases q1 : withinB p 0 L <;> cases q2 : withinB q 0 1000000000
            all_goals
              have HBQ : Hid (badDepB L (p, q) = _) := HBD.out
              rw [q1, q2] at HBQ
              refine wp_region_xt (by kernel_rfl) (by kernel_rfl) ?_
              repeat (go_big_quiet_step (first | (go_at_call_of 49 (Value.int .i64 p); exact Xt.calls_same (Within_val _ _ _ _ q1 _)) | (go_at_call_of 49 (Value.int .i64 q); exact Xt.calls_same (Within_val _ _ _ _ q2 _))))
              refine wpQuiet_nil ?_
              intro w4 hx
              have hb1 := Xt.below hx
              clear hx x0 x1 x2 x3 q1 q2
              have HBN := Lib.hid (HBK.out.trans (hb1.mono hsk))
              clear hb1 c0 c1 e1 e2
              first
                | (have HG : Hid (tot = true) := by
                     have := HAN.out
                     rw [HD.out, List.any_cons, HBQ.out] at this
                     exact this.symm
                   clear HBQ HBD HD HAN
                   go_wp2
                   go_ret
                   exact ⟨by rw [HV.out, HT.out, HG.out]; rfl, HB.out.trans (HBN.out.mono hs0)⟩)
                | (have HG : Hid ((l.drop (k + 1)).any (badDepB L) = tot) := by
                     have := HAN.out
                     rw [HD.out, List.any_cons, HBQ.out] at this
                     exact this
                   clear HBQ HBD HD HAN
                   go_wp2
                   go_roundw
                   case rel => exact ⟨k + 1, by omega, by go_num, HG.out, HBN.out⟩
                   case measure => simp [intOf]; omega)
          · obtain rfl : k = n := by omega
            have hd : l.drop k = [] := by rw [List.drop_eq_nil_iff]; rw [HL.out]; exact Nat.le_refl _
            have HG : Hid (tot = false) := by
              have := HAN.out
              rw [hd, List.any_nil] at this
              exact this.symm
            clear hd HAN hr
            go_wp2
            go_ret
            exact ⟨by rw [HV.out, HT.out, HG.out]; rfl, HB.out.trans (HBK.out.mono hs0)⟩
      · have g1 : (8 : Int) < (n : Int) := by omega
        have HV : Hid (rescueM L l = 8) := by
          rw [Hid, HM.out, q0, f1, decide_eq_false (show ¬ (n : Int) ≤ 8 by omega)]
          rfl
        clear q0 hn0 f1
        go_enter Tryd.func71, Tryd.ntmps71
        go_upto_region 1 with (fail)
        generalize w.alloc (.cells #[.int .i64 L, .slice A n c] 107) = w0 at *
        go_wp2_with (go_at_call 49; refine (Q _).mono ?_; rintro e w' ⟨rfl, rfl⟩)
        go_ret
        exact ⟨by rw [HV.out]; rfl, HB.out⟩
end Go.Proofs.YtmcjnfghlpnghaaDoor

namespace Go.Proofs.YtmcjnfghlpnghaaDoor
open Go.RowKit

/-- the error of depots of a right rescue -/
def depsE (n : Nat) (ds : List Int) : Int := if ds.length = 0 then 10 else depsGo n (-1) ds
def dE (n : Nat) (d last : Int) : Int := firstE [unlessE (withinB d 0 ((n : Int) - 1)) 6, unlessE (decide (last < d)) 9]
theorem depsGo_eq (n : Nat) (last d : Int) (ds : List Int) : depsGo n last (d :: ds) = if dE n d last = 0 then depsGo n d ds else dE n d last := rfl
theorem dE_6 {n : Nat} {x last : Int} (h : withinB x 0 ((n : Int) - 1) = false) : dE n x last = 6 := by
  unfold dE
  rw [h]
  rfl
theorem dE_9 {n : Nat} {x last : Int} (h : withinB x 0 ((n : Int) - 1) = true) (h1 : ¬ last < x) : dE n x last = 9 := by
  unfold dE
  rw [h, decide_eq_false h1]
  rfl
theorem dE_0 {n : Nat} {x last : Int} (h : withinB x 0 ((n : Int) - 1) = true) (h1 : last < x) : dE n x last = 0 := by
  unfold dE
  rw [h, decide_eq_true h1]
  rfl

def RefDepsRel (w0 : World) (n : Nat) (bs : List Int) (n2 : Nat) (tot : Int) (u5 : Value) (wr : World) : Prop :=
  ∃ k : Nat, k ≤ n2 ∧ u5 = .int .i64 k ∧ depsGo n (lastAt bs k) (bs.drop k) = tot ∧ Below w0.heap.size w0 wr

set_option maxRecDepth 100000 in
set_option maxHeartbeats 8000000 in
theorem DepotsErr_any (w : World) (B : Nat) (L : Int) (A A2 : Option Addr) (n c n2 c2 : Nat) (bs : List Int) (hl2 : bs.length = n2) (h2 : Rd w B A2 (intCells bs)) (hB : B ≤ w.heap.size) (hn : n ≤ 1000000) (hn2 : n2 ≤ 1000000000) :
    Calls Tryd.prog 72 #[.agg #[.int .i64 L, .slice A n c], .slice A2 n2 c2] w (ErrVal w (depsE n bs)) := by
  have hb0 : Below w.heap.size w (w.alloc (.cells #[.int .i64 L, .slice A n c] 107)) := (Below.refl _ _).alloc (Nat.le_refl _) _
  have h20 := h2.below (hb0.mono hB)
  have k0 : (w.alloc (.cells #[.int .i64 L, .slice A n c] 107)).heap[w.heap.size]? = some (.cells #[.int .i64 L, .slice A n c] 107 (0, 0)) := by rw [heapq_alloc, if_pos rfl]
  have c1 : (w.alloc (.cells #[.int .i64 L, .slice A n c] 107)).cell? ⟨w.heap.size, 1, none⟩ = some (.slice A n c) := (cell_of_row _ _ 1 _ _ _ k0).trans rfl
  have hs0 := hb0.size
  have hB0 := Nat.le_trans hB hs0
  have HL2 := Lib.hid hl2
  have HB := Lib.hid hb0
  clear h2 hl2 hb0 k0
  by_cases hn0 : n2 = 0
  · have HV : Hid (depsE n bs = 10) := by rw [Hid, depsE, if_pos (HL2.out.trans hn0)]
    have e0 : ((n2 : Int) == 0) = true := by rw [hn0]; rfl
    clear hn0
    go_enter Tryd.func72, Tryd.ntmps72
    go_upto_region 1 with (fail)
    generalize w.alloc (.cells #[.int .i64 L, .slice A n c] 107) = w0 at *
    go_wp2
    go_ret
    exact ⟨by rw [HV.out]; rfl, HB.out⟩
  obtain ⟨tot, htot⟩ : ∃ t, depsGo n (-1) bs = t := ⟨_, rfl⟩
  have HTOT := Lib.hid htot
  have HE : Hid (depsE n bs = tot) := by rw [Hid, depsE, if_neg (by rw [HL2.out]; exact hn0), htot]
  have e0 : ((n2 : Int) == 0) = false := beq_eq_false_iff_ne.2 (by omega)
  clear htot hn0
  go_enter Tryd.func72, Tryd.ntmps72
  go_upto_region 1 with (fail)
  generalize w.alloc (.cells #[.int .i64 L, .slice A n c] 107) = w0 at *
  have C1 := Lib.hid c1
  go_wp2
  go_loopw [5] (fun u5 wr => RefDepsRel w0 n bs n2 tot u5 wr) (fun u5 _ => n2 - (intOf u5).toNat)
  case atStart => exact ⟨0, Nat.zero_le _, rfl, by rw [List.drop_zero]; exact HTOT.out, Below.refl _ _⟩
  case round =>
    clear c1
    obtain ⟨k, hk, rfl, hgo, hb⟩ := hrel
    have HGO := Lib.hid hgo
    have HBK := Lib.hid hb
    have c1 := kept hb C1.out
    have hsk := hb.size
    have h2r := h20.below (hb.mono hB0)
    clear hb hgo
    by_cases hkn : k < n2
    · have hkl : k < bs.length := by rw [HL2.out]; exact hkn
      obtain ⟨b2, off2, hA2, _, d1⟩ := h2r.at_ (k := k) (u := .int .i64 (bs[k]?.getD 0)) (intCells_at bs k hkl)
      have HS := Lib.hid (drop_at bs 0 k hkl)
      have HLA : Hid (lastAt bs (k + 1) = bs[k]?.getD 0) := by rw [Hid, lastAt, if_neg (by omega)]; rfl
      have HNX : Hid (dE n (bs[k]?.getD 0) (lastAt bs k) = 0 → depsGo n (lastAt bs (k + 1)) (bs.drop (k + 1)) = tot) := fun h => by
        have := HGO.out
        rw [HS.out, depsGo_eq, if_pos h] at this
        rw [HLA.out]
        exact this
      have HER : Hid (dE n (bs[k]?.getD 0) (lastAt bs k) ≠ 0 → tot = dE n (bs[k]?.getD 0) (lastAt bs k)) := fun h => by
        have := HGO.out
        rw [HS.out, depsGo_eq, if_neg h] at this
        exact this.symm
      have HP : Hid (k ≠ 0 → wr.cell? ⟨b2, off2 + (k - 1), none⟩ = some (.int .i64 (lastAt bs k))) := fun h => by
        obtain ⟨b3, off3, hA3, _, d2⟩ := h2r.at_ (k := k - 1) (u := .int .i64 (bs[k - 1]?.getD 0)) (intCells_at bs (k - 1) (by omega))
        rw [hA2] at hA3
        simp only [Option.some.injEq, Addr.mk.injEq, and_true] at hA3
        obtain ⟨rfl, rfl⟩ := hA3
        rw [lastAt, if_neg h]
        exact d2
      have HL0 : Hid (k = 0 → lastAt bs k = -1) := fun h => by rw [lastAt, if_pos h]
      generalize bs[k]?.getD 0 = q at *
      generalize lastAt bs k = last at *
      subst hA2
      clear hkl HS HGO
      have HBF := Lib.hid (HB.out.trans (HBK.out.mono hs0))
      cases hq : withinB q 0 ((n : Int) - 1) with
      | false =>
        have H6 : Hid (tot = 6) := by
          have h6 := dE_6 (last := last) hq
          rw [Hid, HER.out (by rw [h6]; decide), h6]
        clear HER HNX HLA
        go_upto_region 6 with (fail)
        have x0 := fun y : Xt wr => y.cell c1
        have x1 := fun y : Xt wr => y.cell d1
        have v0 : IntKind.i64.wrap ((n : Int) - 1) = (n : Int) - 1 := IntWalk.i64_in _ (by omega)
        refine wp_region_xt (by kernel_rfl) (by kernel_rfl) ?_
        repeat (go_big_quiet_step ((go_at_call 49; exact Xt.calls_same (Within_val _ _ _ _ hq _))))
        refine wpQuiet_nil ?_
        intro w4 hx
        have hb1 := Xt.below hx
        clear hx x0 x1 v0 hq d1 c1
        have HBE := Lib.hid (HBF.out.trans (hb1.mono (Nat.le_trans hs0 hsk)))
        clear hb1
        go_wp2
        go_ret
        exact ⟨by rw [HE.out, H6.out]; rfl, HBE.out⟩
      | true =>
        have hq0 : 0 ≤ q := by
          simp only [withinB, Bool.and_eq_true, decide_eq_true_eq] at hq
          exact hq.1
        have HQ := Lib.hid hq
        go_upto_region 6 with (fail)
        have x0 := fun y : Xt wr => y.cell c1
        have x1 := fun y : Xt wr => y.cell d1
        have v0 : IntKind.i64.wrap ((n : Int) - 1) = (n : Int) - 1 := IntWalk.i64_in _ (by omega)
        refine wp_region_xt (by kernel_rfl) (by kernel_rfl) ?_
        repeat (go_big_quiet_step ((go_at_call 49; exact Xt.calls_same (Within_val _ _ _ _ hq _))))
        refine wpQuiet_nil ?_
        intro w4 hx
        have hb1 := Xt.below hx
        clear hx x0 x1 v0 hq c1
        have d1' := kept hb1 d1
        have HB4 := Lib.hid (HBK.out.trans (hb1.mono hsk))
        have HBF4 := Lib.hid (HBF.out.trans (hb1.mono (Nat.le_trans hs0 hsk)))
        have hs4 := hb1.size
        have HP4 : Hid (k ≠ 0 → w4.cell? ⟨b2, off2 + (k - 1), none⟩ = some (.int .i64 last)) := fun h => kept hb1 (HP.out h)
        clear hb1 d1 HP HBK HBF
        go_upto_region 8 with (fail)
        have HSZ := Lib.hid (Nat.le_trans hsk hs4)
        have HSZ0 := Lib.hid (Nat.le_trans hs0 (Nat.le_trans hsk hs4))
        by_cases hk0 : k = 0
        · have f1 : decide ((0 : Int) < (k : Int)) = false := decide_eq_false (by omega)
          have f2 : decide (0 < k) = false := decide_eq_false (by omega)
          have hlq : Hid (last < q) := by rw [Hid, HL0.out hk0]; omega
          have HG := Lib.hid (HNX.out (dE_0 HQ.out hlq.out))
          clear hk0 HP4 HL0
          refine wp_region_xt (by kernel_rfl) (by kernel_rfl) ?_
          repeat (go_big_quiet_step (fail))
          refine wpQuiet_nil ?_
          intro w5 hx
          have hb1 := Xt.below hx
          clear hx f1 f2
          have HB5 := Lib.hid (HB4.out.trans (hb1.mono (HSZ.out)))
          clear hb1 d1' HB4 HBF4 HNX HER HLA
          go_wp2
          go_roundw
          case rel => exact ⟨k + 1, by omega, by go_num, HG.out, HB5.out⟩
          case measure => simp [intOf]; omega
        · have f1 : decide ((0 : Int) < (k : Int)) = true := decide_eq_true (by omega)
          have f2 : decide (0 < k) = true := decide_eq_true (by omega)
          have d0 := HP4.out hk0
          obtain ⟨j, hj⟩ : ∃ j, k = j + 1 := ⟨k - 1, by omega⟩
          have HKJ := Lib.hid hj
          have hjn : j < n2 := by omega
          rw [show off2 + (k - 1) = off2 + j by omega] at d0
          have v1 : IntKind.i64.wrap ((k : Int) - 1) = (j : Int) := by rw [IntWalk.i64_in _ (by omega)]; omega
          have hj0 : (0 : Int) ≤ (j : Int) := by exact Int.natCast_nonneg j
          clear hk0 HP4 HL0 hj
          have x1 := fun y : Xt w4 => y.cell d1'
          have x0 := fun y : Xt w4 => y.cell d0
          by_cases hle : q ≤ last
          · have H9 : Hid (tot = 9) := by
              have h6 := dE_9 (n := n) (last := last) HQ.out (Int.not_lt.2 hle)
              rw [Hid, HER.out (by rw [h6]; decide), h6]
            refine wp_region_xt (by kernel_rfl) (by kernel_rfl) ?_
            repeat (go_big_quiet_step (fail))
            refine wpQuiet_nil ?_
            intro w5 hx
            have hb1 := Xt.below hx
            clear hx x0 x1 v1 f1 f2
            have HBF5 := Lib.hid (HBF4.out.trans (hb1.mono HSZ0.out))
            clear hb1 d1' d0 HB4 HBF4 HNX HER HLA
            go_wp2
            go_ret
            exact ⟨by rw [HE.out, H9.out]; rfl, HBF5.out⟩
          · have hlq : Hid (last < q) := Int.not_le.1 hle
            have HG := Lib.hid (HNX.out (dE_0 HQ.out hlq.out))
            refine wp_region_xt (by kernel_rfl) (by kernel_rfl) ?_
            repeat (go_big_quiet_step (fail))
            refine wpQuiet_nil ?_
            intro w5 hx
            have hb1 := Xt.below hx
            clear hx x0 x1 v1 f1 f2
            have HB5 := Lib.hid (HB4.out.trans (hb1.mono (HSZ.out)))
            clear hb1 d1' d0 HB4 HBF4 HNX HER HLA
            go_wp2
            go_roundw
            case rel => exact ⟨k + 1, by omega, by go_num, HG.out, HB5.out⟩
            case measure => simp [intOf]; omega
    · obtain rfl : k = n2 := by omega
      have hd : bs.drop k = [] := by rw [List.drop_eq_nil_iff]; rw [HL2.out]; exact Nat.le_refl _
      have HT : Hid (tot = 0) := by
        have := HGO.out
        rw [hd] at this
        exact this.symm
      clear hd HGO h2r
      go_wp2
      go_ret
      exact ⟨by rw [HE.out, HT.out]; rfl, HB.out.trans (HBK.out.mono hs0)⟩

/-- the numbers below a count -/
def numsK (k : Nat) : List Int := (List.range k).map fun (i : Nat) => (i : Int)
theorem numsK_len (k : Nat) : (numsK k).length = k := by simp [numsK]
theorem numsK_succ (k : Nat) : numsK (k + 1) = numsK k ++ [(k : Int)] := by simp [numsK, List.range_succ]
def NumsRel (w0 : World) (n : Nat) (u3 u4 : Value) (wr : World) : Prop :=
  ∃ k : Nat, k ≤ n ∧ u4 = .int .i64 k ∧ wr.ownsRow w0.heap.size 3 1 u3 k (intCells (numsK k)) ∧ Below w0.heap.size w0 wr

set_option maxRecDepth 100000 in
set_option maxHeartbeats 4000000 in
theorem numbers_any (w : World) (n : Nat) (hn : n ≤ 1000) : Calls Tryd.prog 131 #[.int .i64 n] w (IntsPost w (numsK n) n) := by
  obtain ⟨i1, hi1, hy0, hy1, hy2⟩ := info_parts info3
  go_enter Tryd.func131, Tryd.ntmps131
  go_wp2
  go_loopw [3, 4] (fun u3 u4 wr => NumsRel w n u3 u4 wr) (fun _ u4 _ => n - (intOf u4).toNat)
  case atStart => exact ⟨0, Nat.zero_le _, rfl, ⟨rfl, .inl ⟨rfl, rfl⟩⟩, Below.refl _ _⟩
  case round =>
    obtain ⟨k, hk, rfl, hown, hb⟩ := hrel
    have HOWN := Lib.hid hown
    obtain ⟨Au, cu, rfl⟩ := rowForm hown
    have HBW := Lib.hid hb
    have hsz := hb.size
    clear hb hown
    by_cases hlt : k < n
    · go_wp2_with (at_builtin; refine stp ?_)
      unfold Stp
      refine wpList_append_lies _ rfl _ _ 39 rfl w.heap.size 3 i1 _ 1 8 Tryd.underlying39 hi1 hy0 hy1 hy2 rfl (by omega) (.slice Au k cu) k (intCells (numsK k)) rfl (HOWN.out.alloc _) ⟨wr.heap.size, 0, none⟩ 1 1 [.int .i64 (k : Int)] rfl rfl (news1 (by simp)) (by simp [Value.oneCell']) (by omega) (by simp only [maxLen]; omega) (by omega) (by simp; omega) _ rfl ?_
      intro gg cap w3 hown1 hgrow hat hlt9
      have hb9 : Below w.heap.size w w3 := (HBW.out.alloc hsz _).grown hgrow (by simp; omega) (fun k hk => (ownBlk HOWN.out hk).1)
      have HOWN1 := Lib.hid hown1
      have HB9 := Lib.hid hb9
      clear hown1 hgrow hat hlt9 hb9
      go_wp2
      go_roundw
      case rel => exact ⟨k + 1, by omega, by go_num, (by rw [numsK_succ]; simpa [intCells] using HOWN1.out), HB9.out⟩
      case measure => simp [intOf]; omega
    · obtain rfl : k = n := by omega
      go_wp2
      go_ret
      exact ⟨_, _, rfl, rd_own HOWN.out, HBW.out⟩
end Go.Proofs.YtmcjnfghlpnghaaDoor

namespace Go.Proofs.YtmcjnfghlpnghaaDoor
open Go.RowKit

def BehindRel (w0 : World) (l : List Dep) (ds : List Nat) (p R : Int) (m : Nat) (u7 u8 : Value) (wr : World) : Prop :=
  ∃ (k : Nat) (best : Int), k ≤ m ∧ u8 = .int .i64 k ∧ u7 = .int .i64 best ∧ reachGo l p best (ds.drop k) = R ∧ -1 ≤ best ∧ best ≤ 10000000000 ∧ Below w0.heap.size w0 wr

set_option maxRecDepth 100000 in
set_option maxHeartbeats 8000000 in
theorem Behind_any (w : World) (B : Nat) (L : Int) (A D : Option Addr) (n c m e : Nat) (l : List Dep) (ds : List Nat) (hl : l.length = n) (hm : ds.length = m) (h : Rd w B A (depCells l)) (hd : Rd w B D (natCells ds)) (hB : B ≤ w.heap.size)
    (ok : ∀ d ∈ l, DepOk d) (ix : ∀ i ∈ ds, i < n) (hm1 : m ≤ 1000000) (p : Int) (hp : 0 ≤ p ∧ p ≤ 2000000000) :
    Calls Tryd.prog 75 #[.agg #[.int .i64 L, .slice A n c], .slice D m e, .int .i64 p] w (ErrVal w (reachGo l p (-1) ds)) := by
  obtain ⟨hp0, hp1⟩ := hp
  have hb0 : Below w.heap.size w (w.alloc (.cells #[.int .i64 L, .slice A n c] 107)) := (Below.refl _ _).alloc (Nat.le_refl _) _
  have h0 := h.below (hb0.mono hB)
  have hd0 := hd.below (hb0.mono hB)
  have k0 : (w.alloc (.cells #[.int .i64 L, .slice A n c] 107)).heap[w.heap.size]? = some (.cells #[.int .i64 L, .slice A n c] 107 (0, 0)) := by rw [heapq_alloc, if_pos rfl]
  have c1 : (w.alloc (.cells #[.int .i64 L, .slice A n c] 107)).cell? ⟨w.heap.size, 1, none⟩ = some (.slice A n c) := (cell_of_row _ _ 1 _ _ _ k0).trans rfl
  have hs0 := hb0.size
  have hB0 := Nat.le_trans hB hs0
  have HL := Lib.hid hl
  have HM := Lib.hid hm
  have OK := Lib.hid ok
  have IX := Lib.hid ix
  have HB := Lib.hid hb0
  obtain ⟨R, hR⟩ : ∃ R, reachGo l p (-1) ds = R := ⟨_, rfl⟩
  rw [hR]
  have HR := Lib.hid hR
  clear h hd hl hm ok ix hb0 k0 hR
  go_enter Tryd.func75, Tryd.ntmps75
  go_upto_region 1 with (fail)
  generalize w.alloc (.cells #[.int .i64 L, .slice A n c] 107) = w0 at *
  have C1 := Lib.hid c1
  go_wp2
  go_loopw [7, 8] (fun u7 u8 wr => BehindRel w0 l ds p R m u7 u8 wr) (fun _ u8 _ => m - (intOf u8).toNat)
  case atStart => exact ⟨0, -1, Nat.zero_le _, rfl, rfl, by rw [List.drop_zero]; exact HR.out, by omega, by omega, Below.refl _ _⟩
  case round =>
    clear c1
    obtain ⟨k, best, hk, rfl, rfl, he, g0, g1, hb⟩ := hrel
    have HE := Lib.hid he
    have HBK := Lib.hid hb
    have c1 := kept hb C1.out
    have hsk := hb.size
    have hr := h0.below (hb.mono hB0)
    have hdr := hd0.below (hb.mono hB0)
    clear hb he
    by_cases hlt : k < m
    · have hkd : k < ds.length := by rw [HM.out]; exact hlt
      obtain ⟨bd, offd, rfl, _, e0⟩ := hdr.at_ (natCells_at ds k hkd)
      have hix := IX.out (ds[k]?.getD 0) (by rw [List.getElem?_eq_getElem hkd, Option.getD_some]; exact List.getElem_mem hkd)
      have HS := Lib.hid (drop_at ds 0 k hkd)
      generalize ds[k]?.getD 0 = i at *
      have hil : i < l.length := by rw [HL.out]; exact hix
      obtain ⟨z0, z1⟩ := depCells_at l i (l[i]?.getD (0, 0)) (by simp [hil])
      obtain ⟨b, off, rfl, _, e1, e2⟩ := hr.at2 z0 z1
      obtain ⟨p0, p1, p2, p3⟩ := OK.out (l[i]?.getD (0, 0)) (by rw [List.getElem?_eq_getElem hil, Option.getD_some]; exact List.getElem_mem hil)
      have HD : Hid (reachGo l p (if best < 0 ∨ behindM (l[i]?.getD (0, 0)) p < best then behindM (l[i]?.getD (0, 0)) p else best) (ds.drop (k + 1)) = R) := by
        rw [Hid, ← HE.out, HS.out, reachGo]
      clear hkd z0 z1 hil hr hdr HE HS
      generalize l[i]?.getD (0, 0) = d at *
      obtain ⟨d1, d2⟩ := d
      simp only at p0 p1 p2 p3 e1 e2
      go_upto_region 5 with (fail)
      have x0 := fun y : Xt wr => y.cell c1
      have x1 := fun y : Xt wr => y.cell e0
      have x2 := fun y : Xt wr => y.cell e1
      have x3 := fun y : Xt wr => y.cell e2
      refine wp_region_eager [9] (fun w' => ∃ x : Xt wr, w' = x.1) (by kernel_rfl) ⟨⟨wr.drew, (Below.refl _ _).drew⟩, rfl⟩ ?_
      refine wpE_reads [0, 1, 2, 3, 4, 5, 6, 7] 2 rfl (by kernel_rfl) ?_
      simp only [opsAt_nil, opsAt_cons, consOpt_some, List.getElem?_toArray, List.getElem?_cons_zero, List.getElem?_cons_succ]
      repeat (go_big_quiet_step (fail))
      refine wpQuiet_nil ?_
      have hbd : Below wr.heap.size wr wr.drew := (Below.refl _ _).drew
      show wpE _ _ _ _ _ _ _ _ _ wr.drew
      clear x0 x1 x2 x3
      generalize wr.drew = wd at *
      refine wpE_one (i := 8) rfl (by kernel_rfl) rfl ?_
      unfold wpMid
      simp only [opsAt_nil, opsAt_cons, consOpt_some, List.getElem?_toArray, List.getElem?_cons_zero, List.getElem?_cons_succ]
      go_wp2
      have hbz : Below wr.heap.size wr (wd.alloc (.cells #[.int .i64 0, .int .i64 0] 143)) := hbd.alloc hbd.size _
      have kz : (wd.alloc (.cells #[.int .i64 0, .int .i64 0] 143)).heap[wd.heap.size]? = some (.cells #[.int .i64 0, .int .i64 0] 143 (0, 0)) := by rw [heapq_alloc, if_pos rfl]
      have hzb : wr.heap.size ≤ wd.heap.size := hbd.size
      generalize wd.alloc (.cells #[.int .i64 0, .int .i64 0] 143) = wz at *
      generalize wd.heap.size = zb at *
      refine onlyNormal_mk ⟨⟨⟨_, hbz⟩, rfl⟩, ?_⟩
      refine wpE_tail rfl (by kernel_rfl) ?_
      simp only [opsAt_nil, opsAt_cons, consOpt_some, List.getElem?_toArray, List.getElem?_cons_zero, List.getElem?_cons_succ]
      have t0 := (cell_of_row wz zb 0 _ _ _ kz).trans (by rfl : _ = some (.int .i64 0))
      have t1 := (cell_of_row wz zb 1 _ _ _ kz).trans (by rfl : _ = some (.int .i64 0))
      have f0 := frozen_of_row wz zb 0 _ _ kz
      have f1 := frozen_of_row wz zb 1 _ _ kz
      have kb : ((wz.setCell ⟨zb, 0, none⟩ (.int .i64 d1)).setCell ⟨zb, 1, none⟩ (.int .i64 d2)).heap[zb]? = some (.cells #[.int .i64 d1, .int .i64 d2] 143 (0, 0)) := by
        rw [heapq_set, if_pos rfl, heapq_set, if_pos rfl, kz]
        simp [objSet_cells]
      have hba : Below wr.heap.size wr ((wz.setCell ⟨zb, 0, none⟩ (.int .i64 d1)).setCell ⟨zb, 1, none⟩ (.int .i64 d2)) := (hbz.setCell (p := ⟨zb, 0, none⟩) hzb _).setCell (p := ⟨zb, 1, none⟩) hzb _
      have m0 := (cell_of_row _ _ 0 _ _ _ kb).trans (by rfl : _ = some (.int .i64 d1))
      have m1 := (cell_of_row _ _ 1 _ _ _ kb).trans (by rfl : _ = some (.int .i64 d2))
      have HBA := Lib.hid (HBK.out.trans (hba.mono hsk))
      have hsa := Nat.le_trans hsk hba.size
      clear hbd hba hbz kb kz c1 e0 e1 e2
      go_wp2
      refine onlyNormal_mk ?_
      clear t0 t1 f0 f1
      generalize (wz.setCell ⟨zb, 0, none⟩ (.int .i64 d1)).setCell ⟨zb, 1, none⟩ (.int .i64 d2) = wa at *
      go_upto_region 6 with (fail)
      have SZ := fun W => Size_any (p - 2 * d1) (by omega) W
      have hz0 : 0 ≤ sizeI (p - 2 * d1) := by unfold sizeI; omega
      have hz1 : sizeI (p - 2 * d1) ≤ 2000000000 := by unfold sizeI; omega
      have HSI : Hid (behindM (d1, d2) p = 2 * d2 + sizeI (p - 2 * d1)) := rfl
      generalize sizeI (p - 2 * d1) = sz at *
      have x0 := fun y : Xt wa => y.cell m0
      have x1 := fun y : Xt wa => y.cell m1
      have v0 : IntKind.i64.wrap (2 * d2) = 2 * d2 := IntWalk.i64_in _ (by omega)
      have v1 : IntKind.i64.wrap (2 * d1) = 2 * d1 := IntWalk.i64_in _ (by omega)
      have v2 : IntKind.i64.wrap (p - 2 * d1) = p - 2 * d1 := IntWalk.i64_in _ (by clear v0 v1; omega)
      have v3 : IntKind.i64.wrap (2 * d2 + sz) = 2 * d2 + sz := IntWalk.i64_in _ (by clear v0 v1 v2; omega)
      refine wp_region_xt (by kernel_rfl) (by kernel_rfl) ?_
      repeat (go_big_quiet_step ((go_at_call 114; exact Xt.calls_same (SZ _))))
      refine wpQuiet_nil ?_
      intro w4 hx
      have hb1 := Xt.below hx
      clear hx x0 x1 v0 v1 v2 v3 SZ m0 m1
      have HBN := Lib.hid (HBA.out.trans (hb1.mono hsa))
      clear hb1
      have hdo := HD.out
      rw [HSI.out] at hdo
      have HDO := Lib.hid hdo
      clear hdo HD HSI
      by_cases q1 : best < 0
      · have HN : Hid (reachGo l p (2 * d2 + sz) (ds.drop (k + 1)) = R) := by
          have := HDO.out
          rw [if_pos (.inl q1)] at this
          exact this
        clear HDO
        go_wp2
        go_roundw
        case rel => exact ⟨k + 1, _, by omega, by go_num, rfl, HN.out, by omega, by omega, HBN.out⟩
        case measure => simp [intOf]; omega
      · by_cases q2 : 2 * d2 + sz < best
        · have HN : Hid (reachGo l p (2 * d2 + sz) (ds.drop (k + 1)) = R) := by
            have := HDO.out
            rw [if_pos (.inr q2)] at this
            exact this
          clear HDO
          go_wp2
          go_roundw
          case rel => exact ⟨k + 1, _, by omega, by go_num, rfl, HN.out, by omega, by omega, HBN.out⟩
          case measure => simp [intOf]; omega
        · have HN : Hid (reachGo l p best (ds.drop (k + 1)) = R) := by
            have := HDO.out
            rw [if_neg (by omega)] at this
            exact this
          clear HDO
          go_wp2
          go_roundw
          case rel => exact ⟨k + 1, _, by omega, by go_num, rfl, HN.out, by omega, by omega, HBN.out⟩
          case measure => simp [intOf]; omega
    · have hd : ds.drop k = [] := by rw [List.drop_eq_nil_iff]; rw [HM.out]; omega
      have HV : Hid (best = R) := by
        have := HE.out
        rw [hd, reachGo] at this
        exact this
      clear hd HE hr hdr
      go_wp2
      go_ret
      exact ⟨by rw [← HV.out]; rfl, HB.out.trans (HBK.out.mono hs0)⟩
end Go.Proofs.YtmcjnfghlpnghaaDoor

namespace Go.Proofs.YtmcjnfghlpnghaaDoor

/-- the reference's look at places, one by one -/
def refWGo (f : Int → Int) : Int × Int → List Int → Int × Int
  | o, [] => o
  | o, p :: ps => refWGo f (if o.2 < f p ∨ (f p = o.2 ∧ p < o.1) then (p, f p) else o) ps

/-- the first of the places that are reached latest -/
def BestP (f : Int → Int) (xs : List Int) (r : Int × Int) : Prop := r.1 ∈ xs ∧ r.2 = f r.1 ∧ ∀ p ∈ xs, f p < r.2 ∨ (f p = r.2 ∧ r.1 ≤ p)
theorem BestP.uniq {f : Int → Int} {xs : List Int} {r r' : Int × Int} (h : BestP f xs r) (h' : BestP f xs r') : r = r' := by
  obtain ⟨a, b⟩ := r
  obtain ⟨a', b'⟩ := r'
  obtain ⟨h1, h2, h3⟩ := h
  obtain ⟨g1, g2, g3⟩ := h'
  simp only at *
  have k1 := h3 a' g1
  have k2 := g3 a h1
  rw [← g2] at k1
  rw [← h2] at k2
  rcases k1 with k1 | ⟨k1, k3⟩
  · rcases k2 with k2 | ⟨k2, k4⟩ <;> omega
  · rcases k2 with k2 | ⟨k2, k4⟩
    · omega
    · obtain rfl : a = a' := by omega
      obtain rfl : b = b' := by omega
      rfl
theorem BestP.mem {f : Int → Int} {xs ys : List Int} {r : Int × Int} (h : BestP f xs r) (hm : ∀ p, p ∈ xs ↔ p ∈ ys) : BestP f ys r :=
  ⟨(hm _).1 h.1, h.2.1, fun p hp => h.2.2 p ((hm p).2 hp)⟩
theorem refWGo_best {f : Int → Int} : ∀ (ps xs : List Int) (o : Int × Int), BestP f xs o → BestP f (xs ++ ps) (refWGo f o ps)
  | [], xs, o, h => by simpa [refWGo] using h
  | p :: ps, xs, o, h => by
    have ih := refWGo_best ps (xs ++ [p]) (if o.2 < f p ∨ (f p = o.2 ∧ p < o.1) then (p, f p) else o) (by
      obtain ⟨h1, h2, h3⟩ := h
      split
      · rename_i hc
        refine ⟨by simp, rfl, fun q hq => ?_⟩
        rcases List.mem_append.1 hq with hq | hq
        · have := h3 q hq
          simp only
          omega
        · obtain rfl : q = p := by simpa using hq
          simp
      · rename_i hc
        refine ⟨by simp [h1], h2, fun q hq => ?_⟩
        rcases List.mem_append.1 hq with hq | hq
        · exact h3 q hq
        · obtain rfl : q = p := by simpa using hq
          omega)
    simpa [refWGo] using ih
theorem worstGo_best {l : List Dep} {ds : List Nat} : ∀ (ps xs : List Int) (o : Int × Int), BestP (fun p => reachGo l p (-1) ds) xs o → (∀ x ∈ xs, ∀ p ∈ ps, x ≤ p) → ps.Pairwise (· ≤ ·) → BestP (fun p => reachGo l p (-1) ds) (xs ++ ps) (worstGo l ds o ps)
  | [], xs, o, h, _, _ => by simpa [worstGo] using h
  | p :: ps, xs, o, h, hx, hs => by
    rw [List.pairwise_cons] at hs
    have ih := worstGo_best ps (xs ++ [p]) (if o.2 < reachGo l p (-1) ds then (p, reachGo l p (-1) ds) else o) (by
      obtain ⟨h1, h2, h3⟩ := h
      split
      · rename_i hc
        refine ⟨by simp, rfl, fun q hq => ?_⟩
        rcases List.mem_append.1 hq with hq | hq
        · have := h3 q hq
          simp only at this ⊢
          omega
        · obtain rfl : q = p := by simpa using hq
          simp
      · rename_i hc
        refine ⟨by simp [h1], h2, fun q hq => ?_⟩
        rcases List.mem_append.1 hq with hq | hq
        · exact h3 q hq
        · obtain rfl : q = p := by simpa using hq
          have := hx o.1 h1 q (by simp)
          simp only
          omega) (fun x hx' q hq => by
        rcases List.mem_append.1 hx' with h' | h'
        · exact hx x h' q (by simp [hq])
        · obtain rfl : x = p := by simpa using h'
          exact hs.1 q hq) hs.2
    simpa [worstGo] using ih

theorem behindM_nonneg {d : Dep} (h : DepOk d) (p : Int) : 0 ≤ behindM d p := by
  have := h.2.2.1
  unfold behindM sizeI
  omega
theorem reachGo_nonneg {l : List Dep} {p : Int} (ok : ∀ d ∈ l, DepOk d) : ∀ (ds : List Nat) (best : Int), (0 ≤ best ∨ best < 0 ∧ ds ≠ []) → 0 ≤ reachGo l p best ds
  | [], best, h => by
    rcases h with h | ⟨_, h⟩
    · simpa [reachGo] using h
    · exact absurd rfl h
  | i :: ds, best, _ => by
    have hd : 0 ≤ behindM (l[i]?.getD (0, 0)) p := by
      cases hi : l[i]? with
      | none => exact behindM_nonneg (d := (0, 0)) ⟨by omega, by omega, by omega, by omega⟩ p
      | some d => exact behindM_nonneg (ok d (List.mem_of_getElem? hi)) p
    unfold reachGo
    refine reachGo_nonneg ok ds _ (.inl ?_)
    split
    · exact hd
    · omega

/-- **Both worst places are one.** -/
theorem refW_eq {l : List Dep} {L : Int} {ds : List Nat} (ok : ∀ d ∈ l, DepOk d) (h0 : ds ≠ []) {p : Int} {ps : List Int} (hx : meetI l L ds [0, 2 * L] ds = p :: ps) :
    refWGo (fun p => reachGo l p (-1) ds) (p, reachGo l p (-1) ds) ps = worstM l L ds := by
  have h1 := refWGo_best (f := fun p => reachGo l p (-1) ds) ps [p] (p, reachGo l p (-1) ds) ⟨by simp, rfl, fun q hq => by
    obtain rfl : q = p := by simpa using hq
    simp⟩
  have hperm : (sortI (p :: ps)).Perm (p :: ps) := by
    unfold sortI
    exact List.mergeSort_perm _ _
  have hsort : (sortI (p :: ps)).Pairwise (· ≤ ·) := by
    unfold sortI
    have := List.pairwise_mergeSort (le := fun a b : Int => decide (a ≤ b)) (fun a b c h1 h2 => by simp at *; omega) (fun a b => by simp; omega) (p :: ps)
    simpa using this
  have h2 : BestP (fun p => reachGo l p (-1) ds) (sortI (p :: ps)) (worstGo l ds (0, -1) (sortI (p :: ps))) := by
    cases hs : sortI (p :: ps) with
    | nil =>
      rw [hs] at hperm
      exact absurd hperm.length_eq (by simp)
    | cons q qs =>
      rw [hs] at hsort
      have hq := reachGo_nonneg (p := q) ok ds (-1) (.inr ⟨by omega, h0⟩)
      have := worstGo_best qs [q] (q, reachGo l q (-1) ds) ⟨by simp, rfl, fun x hx => by
        obtain rfl : x = q := by simpa using hx
        simp⟩ (fun x hx y hy => by
        obtain rfl : x = q := by simpa using hx
        exact (List.pairwise_cons.1 hsort).1 y hy) (List.pairwise_cons.1 hsort).2
      rw [worstGo, if_pos (by simp only; omega)]
      simpa using this
  have h3 : BestP (fun p => reachGo l p (-1) ds) (p :: ps) (worstGo l ds (0, -1) (sortI (p :: ps))) := h2.mem fun x => hperm.mem_iff
  rw [worstM, hx]
  exact BestP.uniq (by simpa using h1) h3
end Go.Proofs.YtmcjnfghlpnghaaDoor

namespace Go.Proofs.YtmcjnfghlpnghaaDoor

/-- all sets of so many of some numbers, in their order -/
def setsM : List Nat → Nat → List (List Nat)
  | _, 0 => [[]]
  | [], _ + 1 => []
  | x :: l, k + 1 => (setsM l k).map (x :: ·) ++ setsM l (k + 1)
/-- the sets that the reference tries, one by one -/
def refSets (n : Nat) : List (List Nat) := (List.range n).flatMap fun k => setsM (List.range n) (k + 1)
/-- the sets that the code tries, one by one -/
def careSets (n : Nat) : List (List Nat) := (List.range (2 ^ n - 1)).map fun s => (List.range n).filter fun i => (s + 1) / 2 ^ i % 2 == 1
/-- is a list ahead of another one of the same length -/
def lexB : List Nat → List Nat → Bool
  | x :: l, y :: m => decide (x < y) || (x == y && lexB l m)
  | _, _ => false
/-- fewer, or as many and ahead -/
def ltB (a b : List Nat) : Bool := decide (a.length < b.length) || (a.length == b.length && lexB a b)
def bestGo (ok : List Nat → Bool) : Option (List Nat) → List (List Nat) → Option (List Nat)
  | b, [] => b
  | none, x :: xs => bestGo ok (if ok x = true then some x else none) xs
  | some b, x :: xs => bestGo ok (if (ltB x b && ok x) = true then some x else some b) xs

def BestS (ok : List Nat → Bool) (xs : List (List Nat)) : Option (List Nat) → Prop
  | none => ∀ x ∈ xs, ok x = false
  | some b => b ∈ xs ∧ ok b = true ∧ ∀ x ∈ xs, ok x = true → ltB x b = false

theorem lexB_total : ∀ (a b : List Nat), a.length = b.length → lexB a b = false → lexB b a = false → a = b
  | [], [], _, _, _ => rfl
  | [], _ :: _, h, _, _ => by simp at h
  | _ :: _, [], h, _, _ => by simp at h
  | x :: l, y :: m, h, h1, h2 => by
    simp only [lexB, Bool.or_eq_false_iff, decide_eq_false_iff_not, Bool.and_eq_false_iff, beq_eq_false_iff_ne] at h1 h2
    obtain rfl : x = y := by omega
    have h3 : lexB l m = false := by rcases h1.2 with h | h <;> simp_all
    have h4 : lexB m l = false := by rcases h2.2 with h | h <;> simp_all
    rw [lexB_total l m (by simpa using h) h3 h4]
theorem ltB_total {a b : List Nat} (h1 : ltB a b = false) (h2 : ltB b a = false) : a = b := by
  simp only [ltB, Bool.or_eq_false_iff, decide_eq_false_iff_not, Bool.and_eq_false_iff, beq_eq_false_iff_ne] at h1 h2
  have hl : a.length = b.length := by omega
  refine lexB_total a b hl ?_ ?_
  · rcases h1.2 with h | h
    · exact absurd hl h
    · exact h
  · rcases h2.2 with h | h
    · exact absurd hl.symm h
    · exact h
theorem BestS.uniq {ok : List Nat → Bool} {xs ys : List (List Nat)} (hm : ∀ x, x ∈ xs ↔ x ∈ ys) {r r' : Option (List Nat)} (h : BestS ok xs r) (h' : BestS ok ys r') : r = r' := by
  cases r with
  | none =>
    cases r' with
    | none => rfl
    | some b =>
      have := h b ((hm b).2 h'.1)
      rw [h'.2.1] at this
      cases this
  | some a =>
    cases r' with
    | none =>
      have := h' a ((hm a).1 h.1)
      rw [h.2.1] at this
      cases this
    | some b =>
      have h1 := h.2.2 b ((hm b).2 h'.1) h'.2.1
      have h2 := h'.2.2 a ((hm a).1 h.1) h.2.1
      rw [ltB_total h2 h1]
theorem find_best {ok : List Nat → Bool} : ∀ (ys : List (List Nat)), ys.Pairwise (fun a b => ltB b a = false) → BestS ok ys (ys.find? ok)
  | [], _ => fun x hx => by simp at hx
  | y :: ys, h => by
    rw [List.pairwise_cons] at h
    have ih := find_best (ok := ok) ys h.2
    by_cases hy : ok y = true
    · rw [List.find?_cons_of_pos hy]
      refine ⟨by simp, hy, fun x hx _ => ?_⟩
      rcases List.mem_cons.1 hx with rfl | hx
      · cases hb : ltB x x with
        | false => rfl
        | true =>
          exfalso
          have hlex : ∀ a : List Nat, lexB a a = false := fun a => by
            induction a with
            | nil => rfl
            | cons z a ih => simp [lexB, ih]
          simp [ltB, hlex] at hb
      · exact h.1 x hx
    · rw [List.find?_cons_of_neg hy]
      cases hf : ys.find? ok with
      | none =>
        rw [hf] at ih
        intro x hx
        rcases List.mem_cons.1 hx with rfl | hx
        · simpa using hy
        · exact ih x hx
      | some b =>
        rw [hf] at ih
        refine ⟨by simp [ih.1], ih.2.1, fun x hx hok => ?_⟩
        rcases List.mem_cons.1 hx with rfl | hx
        · exact absurd hok hy
        · exact ih.2.2 x hx hok

theorem lexB_trans : ∀ (a b c : List Nat), lexB a b = true → lexB b c = true → lexB a c = true
  | [], _, _, h, _ => by simp [lexB] at h
  | _ :: _, [], _, h, _ => by simp [lexB] at h
  | _ :: _, _ :: _, [], _, h => by simp [lexB] at h
  | x :: l, y :: m, z :: k, h1, h2 => by
    simp only [lexB, Bool.or_eq_true, decide_eq_true_eq, Bool.and_eq_true, beq_iff_eq] at h1 h2 ⊢
    rcases h1 with h1 | ⟨rfl, h1⟩
    · rcases h2 with h2 | ⟨rfl, h2⟩
      · exact .inl (by omega)
      · exact .inl h1
    · rcases h2 with h2 | ⟨rfl, h2⟩
      · exact .inl h2
      · exact .inr ⟨rfl, lexB_trans l m k h1 h2⟩
theorem ltB_trans {a b c : List Nat} (h1 : ltB a b = true) (h2 : ltB b c = true) : ltB a c = true := by
  simp only [ltB, Bool.or_eq_true, decide_eq_true_eq, Bool.and_eq_true, beq_iff_eq] at h1 h2 ⊢
  rcases h1 with h1 | ⟨h1, h3⟩
  · rcases h2 with h2 | ⟨h2, h4⟩ <;> exact .inl (by omega)
  · rcases h2 with h2 | ⟨h2, h4⟩
    · exact .inl (by omega)
    · exact .inr ⟨by omega, lexB_trans a b c h3 h4⟩
theorem lexB_self : ∀ a : List Nat, lexB a a = false
  | [] => rfl
  | z :: a => by simp [lexB, lexB_self a]
theorem ltB_self (a : List Nat) : ltB a a = false := by simp [ltB, lexB_self]

theorem bestGo_best {ok : List Nat → Bool} : ∀ (xs seen : List (List Nat)) (b : Option (List Nat)), BestS ok seen b → BestS ok (seen ++ xs) (bestGo ok b xs)
  | [], seen, b, h => by
    cases b <;> simpa [bestGo] using h
  | x :: xs, seen, none, h => by
    have ih := bestGo_best xs (seen ++ [x]) (if ok x = true then some x else none) (by
      by_cases hx : ok x = true
      · rw [if_pos hx]
        refine ⟨by simp, hx, fun z hz hok => ?_⟩
        rcases List.mem_append.1 hz with hz | hz
        · rw [h z hz] at hok
          cases hok
        · obtain rfl : z = x := by simpa using hz
          exact ltB_self z
      · rw [if_neg hx]
        intro z hz
        rcases List.mem_append.1 hz with hz | hz
        · exact h z hz
        · obtain rfl : z = x := by simpa using hz
          simpa using hx)
    simpa [bestGo] using ih
  | x :: xs, seen, some b, h => by
    have ih := bestGo_best xs (seen ++ [x]) (if (ltB x b && ok x) = true then some x else some b) (by
      obtain ⟨h1, h2, h3⟩ := h
      by_cases hx : (ltB x b && ok x) = true
      · rw [if_pos hx]
        simp only [Bool.and_eq_true] at hx
        refine ⟨by simp, hx.2, fun z hz hok => ?_⟩
        rcases List.mem_append.1 hz with hz | hz
        · cases hb : ltB z x with
          | false => rfl
          | true =>
            have := h3 z hz hok
            rw [ltB_trans hb hx.1] at this
            cases this
        · obtain rfl : z = x := by simpa using hz
          exact ltB_self z
      · rw [if_neg hx]
        refine ⟨by simp [h1], h2, fun z hz hok => ?_⟩
        rcases List.mem_append.1 hz with hz | hz
        · exact h3 z hz hok
        · obtain rfl : z = x := by simpa using hz
          simpa [hok] using hx)
    simpa [bestGo] using ih

theorem sets_same : ∀ n, n < 6 → (refSets n).Pairwise (fun a b => ltB b a = false) ∧ (∀ x ∈ careSets n, x ∈ refSets n) ∧ ∀ x ∈ refSets n, x ∈ careSets n := by decide +kernel

/-- **The fewest depots are the same ones.** -/
theorem fewest_eq (ok : List Nat → Bool) {n : Nat} (hn : n ≤ 5) : bestGo ok none (careSets n) = (refSets n).find? ok := by
  obtain ⟨h1, h2, h3⟩ := sets_same n (by omega)
  have a := bestGo_best (ok := ok) (careSets n) [] none (fun x hx => by simp at hx)
  rw [List.nil_append] at a
  exact BestS.uniq (fun x => ⟨h2 x, h3 x⟩) a (find_best _ h1)
end Go.Proofs.YtmcjnfghlpnghaaDoor

namespace Go.Proofs.YtmcjnfghlpnghaaDoor
open Go.RowKit

/-- the look at the places, the first one taken in any case -/
def scanGo (f : Int → Int) : Nat → Int × Int → List Int → Int × Int
  | _, o, [] => o
  | k, o, p :: ps => scanGo f (k + 1) (if k = 0 ∨ o.2 < f p ∨ (f p = o.2 ∧ p < o.1) then (p, f p) else o) ps
theorem scanGo_refW {f : Int → Int} : ∀ (ps : List Int) (k : Nat) (o : Int × Int), k ≠ 0 → scanGo f k o ps = refWGo f o ps
  | [], _, _, _ => rfl
  | p :: ps, k, o, hk => by
    have ih := scanGo_refW (f := f) ps (k + 1) (if o.2 < f p ∨ (f p = o.2 ∧ p < o.1) then (p, f p) else o) (by omega)
    rw [scanGo, refWGo, ← ih]
    simp [hk]
def ScanWRel (wq : World) (y : Nat) (f : Int → Int) (xs : List Int) (R : Int × Int) (u12 : Value) (wr : World) : Prop :=
  ∃ (k : Nat) (o1 o2 : Int), k ≤ xs.length ∧ u12 = .int .i64 k ∧ wr.heap[y]? = some (.cells #[.int .i64 o1, .int .i64 o2] 108 (0, 0)) ∧ scanGo f k (o1, o2) (xs.drop k) = R ∧ Below y wq wr

set_option maxRecDepth 100000 in
set_option maxHeartbeats 16000000 in
theorem refWorst_any (w : World) (B : Nat) (L : Int) (A D : Option Addr) (n c m e : Nat) (l : List Dep) (ds : List Nat) (hl : l.length = n) (hm : ds.length = m) (h : Rd w B A (depCells l)) (hd : Rd w B D (natCells ds)) (hB : B ≤ w.heap.size)
    (hL : 0 ≤ L ∧ L ≤ 1000000000) (ok : ∀ d ∈ l, DepOk d) (ix : ∀ i ∈ ds, i < n) (hm8 : m ≤ 8) (hm0 : 0 < m) :
    Calls Tryd.prog 73 #[.agg #[.int .i64 L, .slice A n c], .slice D m e] w (WorstPost w (worstM l L ds)) := by
  obtain ⟨hL0, hL1⟩ := hL
  obtain ⟨i1, hi1, hy0, hy1, hy2⟩ := info_parts info3
  have hb0 : Below w.heap.size w ((w.alloc (.cells #[.int .i64 L, .slice A n c] 107)).alloc (.cells #[.int .i64 0, .int .i64 0] 108)) := ((Below.refl _ _).alloc (Nat.le_refl _) _).alloc (by simp) _
  have h0 := h.below (hb0.mono hB)
  have hd0 := hd.below (hb0.mono hB)
  have k0 : ((w.alloc (.cells #[.int .i64 L, .slice A n c] 107)).alloc (.cells #[.int .i64 0, .int .i64 0] 108)).heap[w.heap.size]? = some (.cells #[.int .i64 L, .slice A n c] 107 (0, 0)) := by rw [heapq_alloc, if_neg (by simp), heapq_alloc, if_pos rfl]
  have kR : ((w.alloc (.cells #[.int .i64 L, .slice A n c] 107)).alloc (.cells #[.int .i64 0, .int .i64 0] 108)).heap[w.heap.size + 1]? = some (.cells #[.int .i64 0, .int .i64 0] 108 (0, 0)) := by rw [heapq_alloc, if_pos (by simp)]
  have c0 : ((w.alloc (.cells #[.int .i64 L, .slice A n c] 107)).alloc (.cells #[.int .i64 0, .int .i64 0] 108)).cell? ⟨w.heap.size, 0, none⟩ = some (.int .i64 L) := (cell_of_row _ _ 0 _ _ _ k0).trans rfl
  have c1 : ((w.alloc (.cells #[.int .i64 L, .slice A n c] 107)).alloc (.cells #[.int .i64 0, .int .i64 0] 108)).cell? ⟨w.heap.size, 1, none⟩ = some (.slice A n c) := (cell_of_row _ _ 1 _ _ _ k0).trans rfl
  have hs0 := hb0.size
  have hB0 := Nat.le_trans hB hs0
  have HL := Lib.hid hl
  have HM := Lib.hid hm
  have OK := Lib.hid ok
  have IX := Lib.hid ix
  have HB := Lib.hid hb0
  have KR := Lib.hid kR
  clear h hd hl hm ok ix hb0 k0 kR
  go_enter Tryd.func73, Tryd.ntmps73
  go_upto_region 1 with (fail)
  generalize ((w.alloc (.cells #[.int .i64 L, .slice A n c] 107)).alloc (.cells #[.int .i64 0, .int .i64 0] 108)) = w0 at *
  have C0 := Lib.hid c0
  have C1 := Lib.hid c1
  have own0 : (w0.alloc (.cells #[.int .i64 0, .int .i64 (2 * L)] 3)).ownsRow w0.heap.size 3 1 (.slice (some ⟨w0.heap.size, 0, none⟩) 2 2) 2 (intCells [0, 2 * L]) := ⟨rfl, .inr ⟨w0.heap.size, 2, #[Value.int IntKind.i64 0, Value.int IntKind.i64 (2 * L)], rfl, Nat.le_refl _, by rw [heapq_alloc, if_pos rfl], by omega, by simp only [maxLen]; omega, rfl, rfl⟩⟩
  obtain ⟨F1, hF1⟩ : ∃ F, meetI l L ds [0, 2 * L] ds = F := ⟨_, rfl⟩
  have HF1 := Lib.hid hF1
  have REL1 : Hid (MeetRel w0 w0.heap.size l L ds m F1 (.slice (some ⟨w0.heap.size, 0, none⟩) 2 2) (.int .i64 0) (w0.alloc (.cells #[.int .i64 0, .int .i64 (2 * L)] 3))) :=
    ⟨0, [0, 2 * L], Nat.zero_le _, rfl, own0, by simp, by simp, fun p hp => by
      simp at hp
      omega, by rw [List.drop_zero]; exact hF1, (Below.refl _ _).alloc (Nat.le_refl _) _⟩
  clear own0 hF1
  go_wp2
  go_loopw [5, 6] (fun u5 u6 wr => MeetRel w0 w0.heap.size l L ds m F1 u5 u6 wr) (fun _ u6 _ => m - (intOf u6).toNat)
  case atStart => exact REL1.out
  case round =>
    clear REL1 c0 c1
    obtain ⟨k, acc, hk, rfl, hown, hlen, hlen2, hpl, he, hb⟩ := hrel
    have HOWN := Lib.hid hown
    have HPL := Lib.hid hpl
    have HE := Lib.hid he
    have HBK := Lib.hid hb
    clear hown hpl he hb
    by_cases hlt : k < m
    · have hkd : k < ds.length := by rw [HM.out]; exact hlt
      have hix := IX.out (ds[k]?.getD 0) (by rw [List.getElem?_eq_getElem hkd, Option.getD_some]; exact List.getElem_mem hkd)
      have HI : Hid (ds[k]? = some (ds[k]?.getD 0)) := by rw [Hid, List.getElem?_eq_getElem hkd]; rfl
      have HE1 : Hid (meetI l L ds (meetK l L (ds[k]?.getD 0) acc ds) (ds.drop (k + 1)) = F1) := by
        have := HE.out
        rw [drop_at ds 0 k hkd, meetI] at this
        exact this
      generalize ds[k]?.getD 0 = i at *
      obtain ⟨F2, hF2⟩ : ∃ F, meetK l L i acc ds = F := ⟨_, rfl⟩
      rw [hF2] at HE1
      have HF2 := Lib.hid hF2
      clear hkd HE hF2
      go_wp2
      go_loopw [5, 7] (fun u5 u7 wr => MeetRel2 w0 w0.heap.size l L ds m i acc.length F2 u5 u7 wr) (fun _ u7 _ => m - (intOf u7).toNat)
      case atStart => exact ⟨0, acc, Nat.zero_le _, rfl, HOWN.out, by omega, hlen2, HPL.out, by rw [List.drop_zero]; exact HF2.out, HBK.out⟩
      case round =>
        clear HOWN HPL HBK HF2
        obtain ⟨j, acc2, hj, rfl, hown, hl2, hl22, hpl, he, hb⟩ := hrel
        obtain ⟨Au, cu, rfl⟩ := rowForm hown
        have HOWN := Lib.hid hown
        have HPL := Lib.hid hpl
        have HE2 := Lib.hid he
        have HBJ := Lib.hid hb
        have c0' := kept hb C0.out
        have c1' := kept hb C1.out
        have hsj := hb.size
        have hr := h0.below (hb.mono hB0)
        have hdr := hd0.below (hb.mono hB0)
        clear hown hpl he hb
        by_cases hlt2 : j < m
        · have hjd : j < ds.length := by rw [HM.out]; exact hlt2
          have hjx := IX.out (ds[j]?.getD 0) (by rw [List.getElem?_eq_getElem hjd, Option.getD_some]; exact List.getElem_mem hjd)
          obtain ⟨bd, offd, rfl, _, e0⟩ := hdr.at_ (natCells_at ds j hjd)
          have hkd : k < ds.length := by rw [HM.out]; exact hlt
          obtain ⟨bd', offd', hee, _, e0'⟩ := hdr.at_ (natCells_at ds k hkd)
          simp only [Option.some.injEq, Addr.mk.injEq, and_true] at hee
          obtain ⟨rfl, rfl⟩ := hee
          rw [HI.out, Option.getD_some] at e0'
          rw [drop_at ds 0 j hjd] at HE2
          generalize ds[j]?.getD 0 = q at *
          replace HE2 : Hid (meetK l L i (if withinB (meetM l i q) 0 (2 * L) = true then acc2 ++ [meetM l i q] else acc2) (ds.drop (j + 1)) = F2) := HE2.out
          have hil : i < l.length := by rw [HL.out]; exact hix
          have hql : q < l.length := by rw [HL.out]; exact hjx
          obtain ⟨z0, z1⟩ := depCells_at l i (l[i]?.getD (0, 0)) (by simp [hil])
          obtain ⟨y0, y1⟩ := depCells_at l q (l[q]?.getD (0, 0)) (by simp [hql])
          obtain ⟨ba, offa, rfl, _, e1, e2⟩ := hr.at2 z0 z1
          obtain ⟨ba', offa', hee, _, e3, e4⟩ := hr.at2 y0 y1
          simp only [Option.some.injEq, Addr.mk.injEq, and_true] at hee
          obtain ⟨rfl, rfl⟩ := hee
          obtain ⟨p0, p1, p2, p3⟩ := OK.out (l[i]?.getD (0, 0)) (by rw [List.getElem?_eq_getElem hil, Option.getD_some]; exact List.getElem_mem hil)
          obtain ⟨p4, p5, p6, p7⟩ := OK.out (l[q]?.getD (0, 0)) (by rw [List.getElem?_eq_getElem hql, Option.getD_some]; exact List.getElem_mem hql)
          have HMT : Hid (meetM l i q = (l[i]?.getD (0, 0)).1 + (l[q]?.getD (0, 0)).1 + (l[q]?.getD (0, 0)).2 - (l[i]?.getD (0, 0)).2) := rfl
          clear z0 z1 y0 y1 hil hql hjd hkd hr hdr
          generalize l[i]?.getD (0, 0) = da at *
          generalize l[q]?.getD (0, 0) = db at *
          obtain ⟨a1, a2⟩ := da
          obtain ⟨b1, b2⟩ := db
          simp only at p0 p1 p2 p3 p4 p5 p6 p7 e1 e2 e3 e4
          have i0 : (0 : Int) ≤ (i : Int) := by omega
          have i1' : (i : Int) < (n : Int) := by omega
          have i2 : (0 : Int) ≤ (q : Int) := by omega
          have i3 : (q : Int) < (n : Int) := by omega
          go_upto_region 8 with (fail)
          have x0 := fun y : Xt wr => y.cell c1'
          have x1 := fun y : Xt wr => y.cell e0
          have x2 := fun y : Xt wr => y.cell e0'
          have x3 := fun y : Xt wr => y.cell e1
          have x4 := fun y : Xt wr => y.cell e2
          have x5 := fun y : Xt wr => y.cell e3
          have x6 := fun y : Xt wr => y.cell e4
          refine wp_region_eager [19] (fun w' => ∃ x : Xt wr, w' = x.1) (by kernel_rfl) ⟨⟨wr.drew, (Below.refl _ _).drew⟩, rfl⟩ ?_
          refine wpE_reads [0, 1, 2, 3, 4, 5, 6, 7, 8, 9, 10, 11, 12, 13, 14, 15] 4 rfl (by kernel_rfl) ?_
          simp only [opsAt_nil, opsAt_cons, consOpt_some, List.getElem?_toArray, List.getElem?_cons_zero, List.getElem?_cons_succ]
          repeat (go_big_quiet_step (fail))
          refine wpQuiet_nil ?_
          have hbd : Below wr.heap.size wr wr.drew := (Below.refl _ _).drew
          show wpE _ _ _ _ _ _ _ _ _ wr.drew
          clear x0 x1 x2 x3 x4 x5 x6 e0 e0' e1 e2 e3 e4 c1'
          generalize wr.drew = wd at *
          refine wpE_two (i := 16) (k := 17) rfl (by kernel_rfl) rfl rfl ?_ ?_
          · unfold wpMid
            simp only [opsAt_nil, opsAt_cons, consOpt_some, List.getElem?_toArray, List.getElem?_cons_zero, List.getElem?_cons_succ]
            go_wp2
            have hb1 : Below wr.heap.size wr (wd.alloc (.cells #[.int .i64 0, .int .i64 0] 143)) := hbd.alloc hbd.size _
            have k1 : (wd.alloc (.cells #[.int .i64 0, .int .i64 0] 143)).heap[wd.heap.size]? = some (.cells #[.int .i64 0, .int .i64 0] 143 (0, 0)) := by rw [heapq_alloc, if_pos rfl]
            have h1 : wr.heap.size ≤ wd.heap.size := hbd.size
            generalize wd.alloc (.cells #[.int .i64 0, .int .i64 0] 143) = w1 at *
            generalize wd.heap.size = g1 at *
            refine onlyNormal_mk ⟨⟨⟨_, hb1⟩, rfl⟩, ?_⟩
            refine wpE_one (i := 17) rfl (by kernel_rfl) rfl ?_
            unfold wpMid
            simp only [opsAt_nil, opsAt_cons, consOpt_some, List.getElem?_toArray, List.getElem?_cons_zero, List.getElem?_cons_succ]
            go_wp2
            have hb2 : Below wr.heap.size wr (w1.alloc (.cells #[.int .i64 0, .int .i64 0] 143)) := hb1.alloc hb1.size _
            have k2 : (w1.alloc (.cells #[.int .i64 0, .int .i64 0] 143)).heap[w1.heap.size]? = some (.cells #[.int .i64 0, .int .i64 0] 143 (0, 0)) := by rw [heapq_alloc, if_pos rfl]
            have k1' : (w1.alloc (.cells #[.int .i64 0, .int .i64 0] 143)).heap[g1]? = some (.cells #[.int .i64 0, .int .i64 0] 143 (0, 0)) := by
              rw [heapq_alloc, if_neg (Nat.ne_of_lt (lt_of_block k1))]
              exact k1
            have h12 : g1 ≠ w1.heap.size := Nat.ne_of_lt (lt_of_block k1)
            have h2 : wr.heap.size ≤ w1.heap.size := hb1.size
            generalize w1.alloc (.cells #[.int .i64 0, .int .i64 0] 143) = w2 at *
            generalize w1.heap.size = g2 at *
            refine onlyNormal_mk ⟨⟨⟨_, hb2⟩, rfl⟩, ?_⟩
            have ka := k1'
            have kb := k2
            have hga := h1
            have hgb := h2
            have hab : g1 ≠ g2 := h12
            clear k1 k2 k1' h1 h2 h12 hb1
            have ta0 := (cell_of_row w2 g1 0 _ _ _ ka).trans (by rfl : _ = some (.int .i64 0))
            have ta1 := (cell_of_row w2 g1 1 _ _ _ ka).trans (by rfl : _ = some (.int .i64 0))
            have fa0 := frozen_of_row w2 g1 0 _ _ ka
            have fa1 := frozen_of_row w2 g1 1 _ _ ka
            refine wpE_one (i := 18) rfl (by kernel_rfl) rfl ?_
            unfold wpMid
            simp only [opsAt_nil, opsAt_cons, consOpt_some, List.getElem?_toArray, List.getElem?_cons_zero, List.getElem?_cons_succ]
            go_wp2
            have hb3 : Below wr.heap.size wr ((w2.setCell ⟨g1, 0, none⟩ (.int .i64 a1)).setCell ⟨g1, 1, none⟩ (.int .i64 a2)) := (hb2.setCell (p := ⟨g1, 0, none⟩) hga _).setCell (p := ⟨g1, 1, none⟩) hga _
            have ka3 : ((w2.setCell ⟨g1, 0, none⟩ (.int .i64 a1)).setCell ⟨g1, 1, none⟩ (.int .i64 a2)).heap[g1]? = some (.cells #[.int .i64 a1, .int .i64 a2] 143 (0, 0)) := by
              rw [heapq_set, if_pos rfl, heapq_set, if_pos rfl, ka]
              simp [objSet_cells]
            have kb3 : ((w2.setCell ⟨g1, 0, none⟩ (.int .i64 a1)).setCell ⟨g1, 1, none⟩ (.int .i64 a2)).heap[g2]? = some (.cells #[.int .i64 0, .int .i64 0] 143 (0, 0)) := by
              rw [heapq_set, if_neg (Ne.symm hab), heapq_set, if_neg (Ne.symm hab)]
              exact kb
            clear ta0 ta1 fa0 fa1 ka kb hb2
            generalize (w2.setCell ⟨g1, 0, none⟩ (.int .i64 a1)).setCell ⟨g1, 1, none⟩ (.int .i64 a2) = w3 at *
            refine onlyNormal_mk ⟨⟨⟨_, hb3⟩, rfl⟩, ?_⟩
            refine wpE_tail rfl (by kernel_rfl) ?_
            simp only [opsAt_nil, opsAt_cons, consOpt_some, List.getElem?_toArray, List.getElem?_cons_zero, List.getElem?_cons_succ]
            have tb0 := (cell_of_row w3 g2 0 _ _ _ kb3).trans (by rfl : _ = some (.int .i64 0))
            have tb1 := (cell_of_row w3 g2 1 _ _ _ kb3).trans (by rfl : _ = some (.int .i64 0))
            have fb0 := frozen_of_row w3 g2 0 _ _ kb3
            have fb1 := frozen_of_row w3 g2 1 _ _ kb3
            go_wp2
            refine onlyNormal_mk ?_
            have hb4 : Below wr.heap.size wr ((w3.setCell ⟨g2, 0, none⟩ (.int .i64 b1)).setCell ⟨g2, 1, none⟩ (.int .i64 b2)) := (hb3.setCell (p := ⟨g2, 0, none⟩) hgb _).setCell (p := ⟨g2, 1, none⟩) hgb _
            have kb4 : ((w3.setCell ⟨g2, 0, none⟩ (.int .i64 b1)).setCell ⟨g2, 1, none⟩ (.int .i64 b2)).heap[g2]? = some (.cells #[.int .i64 b1, .int .i64 b2] 143 (0, 0)) := by
              rw [heapq_set, if_pos rfl, heapq_set, if_pos rfl, kb3]
              simp [objSet_cells]
            have ka4 : ((w3.setCell ⟨g2, 0, none⟩ (.int .i64 b1)).setCell ⟨g2, 1, none⟩ (.int .i64 b2)).heap[g1]? = some (.cells #[.int .i64 a1, .int .i64 a2] 143 (0, 0)) := by
              rw [heapq_set, if_neg hab, heapq_set, if_neg hab]
              exact ka3
            clear tb0 tb1 fb0 fb1 ka3 kb3 hb3
            generalize (w3.setCell ⟨g2, 0, none⟩ (.int .i64 b1)).setCell ⟨g2, 1, none⟩ (.int .i64 b2) = wa at *
            have ea1 := (cell_of_row wa g1 0 _ _ _ ka4).trans (by rfl : _ = some (.int .i64 a1))
            have ea2 := (cell_of_row wa g1 1 _ _ _ ka4).trans (by rfl : _ = some (.int .i64 a2))
            have eb1 := (cell_of_row wa g2 0 _ _ _ kb4).trans (by rfl : _ = some (.int .i64 b1))
            have eb2 := (cell_of_row wa g2 1 _ _ _ kb4).trans (by rfl : _ = some (.int .i64 b2))
            have OWN := Lib.hid (ownsRow_below HOWN.out hb4)
            have HBB := Lib.hid (HBJ.out.trans (hb4.mono hsj))
            have hsz := Nat.le_trans hsj hb4.size
            have c0'' := kept hb4 c0'
            clear ka4 kb4 hb4 hab hga hgb
            have hpv : b2 - a2 + a1 + b1 = a1 + b1 + b2 - a2 := by omega
            cases hw : withinB (a1 + b1 + b2 - a2) 0 (2 * L)
            · have HEE : Hid (meetK l L i acc2 (ds.drop (j + 1)) = F2) := by
                have h := HE2.out
                rw [HMT.out, hw] at h
                exact h
              have HWV := fun W => Within_val (b2 - a2 + a1 + b1) 0 (2 * L) false (by rw [hpv]; exact hw) W
              clear hw hpv
              go_wp2_with (go_at_call 49; refine (HWV _).mono ?_; rintro e w' ⟨rfl, rfl⟩)
              go_roundw
              case rel => exact ⟨j + 1, acc2, by omega, by go_num, OWN.out, by omega, hl22, HPL.out, HEE.out, HBB.out⟩
              case measure => simp [intOf]; omega
            · have HEE : Hid (meetK l L i (acc2 ++ [b2 - a2 + a1 + b1]) (ds.drop (j + 1)) = F2) := by
                have h := HE2.out
                rw [HMT.out, hw] at h
                rw [hpv]
                exact h
              have HPL2 : Hid (PlOk (acc2 ++ [b2 - a2 + a1 + b1])) := by
                intro p hp
                rcases List.mem_append.1 hp with h | h
                · exact HPL.out p h
                · have : p = b2 - a2 + a1 + b1 := by simpa using h
                  subst this
                  simp only [withinB, Bool.and_eq_true, decide_eq_true_eq] at hw
                  omega
              have HWV := fun W => Within_val (b2 - a2 + a1 + b1) 0 (2 * L) true (by rw [hpv]; exact hw) W
              clear hw hpv
              go_upto_region 11 with (go_at_call 49; refine (HWV _).mono ?_; rintro e w' ⟨rfl, rfl⟩)
              clear ea1 ea2 eb1 eb2 c0''
              go_wp2_with (at_builtin; refine stp ?_)
              unfold Stp
              refine wpList_append_lies _ rfl _ _ 39 rfl w0.heap.size 3 i1 _ 1 8 Tryd.underlying39 hi1 hy0 hy1 hy2 rfl (by omega) (.slice Au acc2.length cu) acc2.length (intCells acc2) rfl (OWN.out.alloc _) ⟨wa.heap.size, 0, none⟩ 1 1 [.int .i64 (b2 - a2 + a1 + b1)] rfl rfl (news1 (by simp)) (by simp [Value.oneCell']) (by omega) (by simp only [maxLen]; omega) (by omega) (by simp; omega) _ rfl ?_
              intro gg cap w5 hown1 hgrow hat hlt9
              have hb9 : Below w0.heap.size w0 w5 := (HBB.out.alloc hsz _).grown hgrow (by simp; omega) (fun k hk => (ownBlk OWN.out hk).1)
              have HOWN1 := Lib.hid hown1
              have HB9 := Lib.hid hb9
              clear hown1 hgrow hat hlt9 hb9
              go_wp2
              go_roundw
              case rel => exact ⟨j + 1, acc2 ++ [b2 - a2 + a1 + b1], by omega, by go_num, by simpa [intCells] using HOWN1.out, by simp; omega, by simp; omega, HPL2.out, HEE.out, HB9.out⟩
              case measure => simp [intOf]; omega
          · unfold wpMid
            simp only [opsAt_nil, opsAt_cons, consOpt_some, List.getElem?_toArray, List.getElem?_cons_zero, List.getElem?_cons_succ]
            go_wp2
            have hb1 : Below wr.heap.size wr (wd.alloc (.cells #[.int .i64 0, .int .i64 0] 143)) := hbd.alloc hbd.size _
            have k1 : (wd.alloc (.cells #[.int .i64 0, .int .i64 0] 143)).heap[wd.heap.size]? = some (.cells #[.int .i64 0, .int .i64 0] 143 (0, 0)) := by rw [heapq_alloc, if_pos rfl]
            have h1 : wr.heap.size ≤ wd.heap.size := hbd.size
            generalize wd.alloc (.cells #[.int .i64 0, .int .i64 0] 143) = w1 at *
            generalize wd.heap.size = g1 at *
            refine onlyNormal_mk ⟨⟨⟨_, hb1⟩, rfl⟩, ?_⟩
            refine wpE_one (i := 16) rfl (by kernel_rfl) rfl ?_
            unfold wpMid
            simp only [opsAt_nil, opsAt_cons, consOpt_some, List.getElem?_toArray, List.getElem?_cons_zero, List.getElem?_cons_succ]
            go_wp2
            have hb2 : Below wr.heap.size wr (w1.alloc (.cells #[.int .i64 0, .int .i64 0] 143)) := hb1.alloc hb1.size _
            have k2 : (w1.alloc (.cells #[.int .i64 0, .int .i64 0] 143)).heap[w1.heap.size]? = some (.cells #[.int .i64 0, .int .i64 0] 143 (0, 0)) := by rw [heapq_alloc, if_pos rfl]
            have k1' : (w1.alloc (.cells #[.int .i64 0, .int .i64 0] 143)).heap[g1]? = some (.cells #[.int .i64 0, .int .i64 0] 143 (0, 0)) := by
              rw [heapq_alloc, if_neg (Nat.ne_of_lt (lt_of_block k1))]
              exact k1
            have h12 : g1 ≠ w1.heap.size := Nat.ne_of_lt (lt_of_block k1)
            have h2 : wr.heap.size ≤ w1.heap.size := hb1.size
            generalize w1.alloc (.cells #[.int .i64 0, .int .i64 0] 143) = w2 at *
            generalize w1.heap.size = g2 at *
            refine onlyNormal_mk ⟨⟨⟨_, hb2⟩, rfl⟩, ?_⟩
            have ka := k2
            have kb := k1'
            have hga := h2
            have hgb := h1
            have hab : g2 ≠ g1 := Ne.symm h12
            clear k1 k2 k1' h1 h2 h12 hb1
            have ta0 := (cell_of_row w2 g2 0 _ _ _ ka).trans (by rfl : _ = some (.int .i64 0))
            have ta1 := (cell_of_row w2 g2 1 _ _ _ ka).trans (by rfl : _ = some (.int .i64 0))
            have fa0 := frozen_of_row w2 g2 0 _ _ ka
            have fa1 := frozen_of_row w2 g2 1 _ _ ka
            refine wpE_one (i := 18) rfl (by kernel_rfl) rfl ?_
            unfold wpMid
            simp only [opsAt_nil, opsAt_cons, consOpt_some, List.getElem?_toArray, List.getElem?_cons_zero, List.getElem?_cons_succ]
            go_wp2
            have hb3 : Below wr.heap.size wr ((w2.setCell ⟨g2, 0, none⟩ (.int .i64 a1)).setCell ⟨g2, 1, none⟩ (.int .i64 a2)) := (hb2.setCell (p := ⟨g2, 0, none⟩) hga _).setCell (p := ⟨g2, 1, none⟩) hga _
            have ka3 : ((w2.setCell ⟨g2, 0, none⟩ (.int .i64 a1)).setCell ⟨g2, 1, none⟩ (.int .i64 a2)).heap[g2]? = some (.cells #[.int .i64 a1, .int .i64 a2] 143 (0, 0)) := by
              rw [heapq_set, if_pos rfl, heapq_set, if_pos rfl, ka]
              simp [objSet_cells]
            have kb3 : ((w2.setCell ⟨g2, 0, none⟩ (.int .i64 a1)).setCell ⟨g2, 1, none⟩ (.int .i64 a2)).heap[g1]? = some (.cells #[.int .i64 0, .int .i64 0] 143 (0, 0)) := by
              rw [heapq_set, if_neg (Ne.symm hab), heapq_set, if_neg (Ne.symm hab)]
              exact kb
            clear ta0 ta1 fa0 fa1 ka kb hb2
            generalize (w2.setCell ⟨g2, 0, none⟩ (.int .i64 a1)).setCell ⟨g2, 1, none⟩ (.int .i64 a2) = w3 at *
            refine onlyNormal_mk ⟨⟨⟨_, hb3⟩, rfl⟩, ?_⟩
            refine wpE_tail rfl (by kernel_rfl) ?_
            simp only [opsAt_nil, opsAt_cons, consOpt_some, List.getElem?_toArray, List.getElem?_cons_zero, List.getElem?_cons_succ]
            have tb0 := (cell_of_row w3 g1 0 _ _ _ kb3).trans (by rfl : _ = some (.int .i64 0))
            have tb1 := (cell_of_row w3 g1 1 _ _ _ kb3).trans (by rfl : _ = some (.int .i64 0))
            have fb0 := frozen_of_row w3 g1 0 _ _ kb3
            have fb1 := frozen_of_row w3 g1 1 _ _ kb3
            go_wp2
            refine onlyNormal_mk ?_
            have hb4 : Below wr.heap.size wr ((w3.setCell ⟨g1, 0, none⟩ (.int .i64 b1)).setCell ⟨g1, 1, none⟩ (.int .i64 b2)) := (hb3.setCell (p := ⟨g1, 0, none⟩) hgb _).setCell (p := ⟨g1, 1, none⟩) hgb _
            have kb4 : ((w3.setCell ⟨g1, 0, none⟩ (.int .i64 b1)).setCell ⟨g1, 1, none⟩ (.int .i64 b2)).heap[g1]? = some (.cells #[.int .i64 b1, .int .i64 b2] 143 (0, 0)) := by
              rw [heapq_set, if_pos rfl, heapq_set, if_pos rfl, kb3]
              simp [objSet_cells]
            have ka4 : ((w3.setCell ⟨g1, 0, none⟩ (.int .i64 b1)).setCell ⟨g1, 1, none⟩ (.int .i64 b2)).heap[g2]? = some (.cells #[.int .i64 a1, .int .i64 a2] 143 (0, 0)) := by
              rw [heapq_set, if_neg hab, heapq_set, if_neg hab]
              exact ka3
            clear tb0 tb1 fb0 fb1 ka3 kb3 hb3
            generalize (w3.setCell ⟨g1, 0, none⟩ (.int .i64 b1)).setCell ⟨g1, 1, none⟩ (.int .i64 b2) = wa at *
            have ea1 := (cell_of_row wa g2 0 _ _ _ ka4).trans (by rfl : _ = some (.int .i64 a1))
            have ea2 := (cell_of_row wa g2 1 _ _ _ ka4).trans (by rfl : _ = some (.int .i64 a2))
            have eb1 := (cell_of_row wa g1 0 _ _ _ kb4).trans (by rfl : _ = some (.int .i64 b1))
            have eb2 := (cell_of_row wa g1 1 _ _ _ kb4).trans (by rfl : _ = some (.int .i64 b2))
            have OWN := Lib.hid (ownsRow_below HOWN.out hb4)
            have HBB := Lib.hid (HBJ.out.trans (hb4.mono hsj))
            have hsz := Nat.le_trans hsj hb4.size
            have c0'' := kept hb4 c0'
            clear ka4 kb4 hb4 hab hga hgb
            have hpv : b2 - a2 + a1 + b1 = a1 + b1 + b2 - a2 := by omega
            cases hw : withinB (a1 + b1 + b2 - a2) 0 (2 * L)
            · have HEE : Hid (meetK l L i acc2 (ds.drop (j + 1)) = F2) := by
                have h := HE2.out
                rw [HMT.out, hw] at h
                exact h
              have HWV := fun W => Within_val (b2 - a2 + a1 + b1) 0 (2 * L) false (by rw [hpv]; exact hw) W
              clear hw hpv
              go_wp2_with (go_at_call 49; refine (HWV _).mono ?_; rintro e w' ⟨rfl, rfl⟩)
              go_roundw
              case rel => exact ⟨j + 1, acc2, by omega, by go_num, OWN.out, by omega, hl22, HPL.out, HEE.out, HBB.out⟩
              case measure => simp [intOf]; omega
            · have HEE : Hid (meetK l L i (acc2 ++ [b2 - a2 + a1 + b1]) (ds.drop (j + 1)) = F2) := by
                have h := HE2.out
                rw [HMT.out, hw] at h
                rw [hpv]
                exact h
              have HPL2 : Hid (PlOk (acc2 ++ [b2 - a2 + a1 + b1])) := by
                intro p hp
                rcases List.mem_append.1 hp with h | h
                · exact HPL.out p h
                · have : p = b2 - a2 + a1 + b1 := by simpa using h
                  subst this
                  simp only [withinB, Bool.and_eq_true, decide_eq_true_eq] at hw
                  omega
              have HWV := fun W => Within_val (b2 - a2 + a1 + b1) 0 (2 * L) true (by rw [hpv]; exact hw) W
              clear hw hpv
              go_upto_region 11 with (go_at_call 49; refine (HWV _).mono ?_; rintro e w' ⟨rfl, rfl⟩)
              clear ea1 ea2 eb1 eb2 c0''
              go_wp2_with (at_builtin; refine stp ?_)
              unfold Stp
              refine wpList_append_lies _ rfl _ _ 39 rfl w0.heap.size 3 i1 _ 1 8 Tryd.underlying39 hi1 hy0 hy1 hy2 rfl (by omega) (.slice Au acc2.length cu) acc2.length (intCells acc2) rfl (OWN.out.alloc _) ⟨wa.heap.size, 0, none⟩ 1 1 [.int .i64 (b2 - a2 + a1 + b1)] rfl rfl (news1 (by simp)) (by simp [Value.oneCell']) (by omega) (by simp only [maxLen]; omega) (by omega) (by simp; omega) _ rfl ?_
              intro gg cap w5 hown1 hgrow hat hlt9
              have hb9 : Below w0.heap.size w0 w5 := (HBB.out.alloc hsz _).grown hgrow (by simp; omega) (fun k hk => (ownBlk OWN.out hk).1)
              have HOWN1 := Lib.hid hown1
              have HB9 := Lib.hid hb9
              clear hown1 hgrow hat hlt9 hb9
              go_wp2
              go_roundw
              case rel => exact ⟨j + 1, acc2 ++ [b2 - a2 + a1 + b1], by omega, by go_num, by simpa [intCells] using HOWN1.out, by simp; omega, by simp; omega, HPL2.out, HEE.out, HB9.out⟩
              case measure => simp [intOf]; omega
        · obtain rfl : j = m := by omega
          have hdn : ds.drop j = [] := by rw [List.drop_eq_nil_iff]; rw [HM.out]; exact Nat.le_refl _
          have HFF : Hid (acc2 = F2) := by
            have := HE2.out
            rw [hdn, meetK] at this
            exact this
          have HE3 : Hid (meetI l L ds acc2 (ds.drop (k + 1)) = F1) := by rw [Hid, HFF.out]; exact HE1.out
          clear hdn HE2 hr hdr
          go_wp2
          go_roundw
          case rel => exact ⟨k + 1, acc2, by omega, by go_num, HOWN.out, by omega, hl22, HPL.out, HE3.out, HBJ.out⟩
          case measure => simp [intOf]; omega
    · obtain rfl : k = m := by omega
      have hdn : ds.drop k = [] := by rw [List.drop_eq_nil_iff]; rw [HM.out]; exact Nat.le_refl _
      have HFF : Hid (acc = F1) := by
        have := HE.out
        rw [hdn, meetI] at this
        exact this
      obtain rfl := HFF.out
      obtain ⟨Au, cu, rfl⟩ := rowForm HOWN.out
      have hF := rd_own HOWN.out
      have HPL2 := Lib.hid HPL.out
      obtain ⟨R, hR⟩ : ∃ R, worstM l L ds = R := ⟨_, rfl⟩
      have hne : ds ≠ [] := fun h0 => by
        have := HM.out
        rw [h0] at this
        simp at this
        omega
      have HSC0 : Hid (scanGo (fun p => reachGo l p (-1) ds) 0 (0, 0) acc = R) := by
        cases hacc : acc with
        | nil => rw [hacc] at hlen2; simp at hlen2
        | cons p ps =>
          have h1 := refW_eq (L := L) OK.out hne (HF1.out.trans hacc)
          rw [Hid, ← hR, ← h1, scanGo, if_pos (.inl rfl), scanGo_refW ps 1 _ (by omega)]
      have HR := Lib.hid hR
      have c0q := kept HBK.out C0.out
      have c1q := kept HBK.out C1.out
      have hrq := h0.below (HBK.out.mono hB0)
      have hdq := hd0.below (HBK.out.mono hB0)
      have hsq := HBK.out.size
      have KQ : Hid (wr.heap[w.heap.size + 1]? = some (.cells #[.int .i64 0, .int .i64 0] 108 (0, 0))) := (HBK.out.block (w.heap.size + 1) (lt_of_block KR.out)).trans KR.out
      have hxy : w.heap.size + 1 < wr.heap.size := lt_of_block KQ.out
      have HBQ := Lib.hid (HB.out.trans (HBK.out.mono hs0))
      have kz : (wr.alloc (.cells #[.int .i64 0, .int .i64 0] 108)).heap[wr.heap.size]? = some (.cells #[.int .i64 0, .int .i64 0] 108 (0, 0)) := by rw [heapq_alloc, if_pos rfl]
      have HREL0 := Lib.hid (show ScanWRel wr wr.heap.size (fun p => reachGo l p (-1) ds) acc R (.int .i64 0) (wr.alloc (.cells #[.int .i64 0, .int .i64 0] 108)) from ⟨0, 0, 0, Nat.zero_le _, rfl, kz, by rw [List.drop_zero]; exact HSC0.out, (Below.refl _ _).alloc (Nat.le_refl _) _⟩)
      have hsB := Nat.le_trans hB0 hsq
      clear hdn hR HOWN HPL HE HBK HSC0 kz
      generalize wr = wq at *
      go_wp2
      generalize wq.heap.size = y at *
      go_loopw [12] (fun u12 wr => ScanWRel wq y (fun p => reachGo l p (-1) ds) acc R u12 wr) (fun u12 _ => acc.length - (intOf u12).toNat)
      case atStart => exact HREL0.out
      case round =>
        clear HREL0
        obtain ⟨t, o1, o2, ht, rfl, hy, hsc, hb⟩ := hrel
        have HSC_ := Lib.hid hsc
        have HBT := Lib.hid hb
        have c0 := keptB hb (show w.heap.size < y by omega) c0q
        have c1 := keptB hb (show w.heap.size < y by omega) c1q
        have hr := hrq.below (hb.mono hsB)
        have hdr := hdq.below (hb.mono hsB)
        have hFr := hF.below hb
        have hys := lt_of_block hy
        have hsz := hb.size
        clear hb hsc
        by_cases hlt : t < acc.length
        · obtain ⟨bF, offF, hAu, _, e5⟩ := hFr.at_ (k := t) (u := .int .i64 (acc[t]?.getD 0)) (intCells_at acc t hlt)
          have hpp := HPL2.out (acc[t]?.getD 0) (by rw [List.getElem?_eq_getElem hlt, Option.getD_some]; exact List.getElem_mem hlt)
          have HSC : Hid (scanGo (fun p => reachGo l p (-1) ds) (t + 1) (if t = 0 ∨ o2 < reachGo l (acc[t]?.getD 0) (-1) ds ∨ (reachGo l (acc[t]?.getD 0) (-1) ds = o2 ∧ acc[t]?.getD 0 < o1) then (acc[t]?.getD 0, reachGo l (acc[t]?.getD 0) (-1) ds) else (o1, o2)) (acc.drop (t + 1)) = R) := by
            have := HSC_.out
            rw [drop_at acc 0 t hlt, scanGo] at this
            exact this
          generalize acc[t]?.getD 0 = p at *
          subst hAu
          clear HSC_
          have BH := fun W (h1 : Rd W B A (depCells l)) (h2 : Rd W B D (natCells ds)) (h3 : B ≤ W.heap.size) => Behind_any W B L A D n c k e l ds HL.out HM.out h1 h2 h3 OK.out IX.out (by omega) p hpp
          unfold ErrVal at BH
          generalize reachGo l p (-1) ds = fp at *
          go_upto_region 16 with (fail)
          have x0 := fun z : Xt wr => z.cell c0
          have x1 := fun z : Xt wr => z.cell c1
          have x2 := fun z : Xt wr => z.cell e5
          refine wp_region_eager [7] (fun w' => ∃ x : Xt wr, w' = x.1) (by kernel_rfl) ⟨⟨wr.drew, (Below.refl _ _).drew⟩, rfl⟩ ?_
          refine wpE_reads [0, 1, 2, 3, 4, 5] 2 rfl (by kernel_rfl) ?_
          simp only [opsAt_nil, opsAt_cons, consOpt_some, List.getElem?_toArray, List.getElem?_cons_zero, List.getElem?_cons_succ]
          repeat (go_big_quiet_step (fail))
          refine wpQuiet_nil ?_
          have hbd : Below wr.heap.size wr wr.drew := (Below.refl _ _).drew
          show wpE _ _ _ _ _ _ _ _ _ wr.drew
          clear x0 x1 x2
          generalize wr.drew = wd at *
          refine wpE_one (i := 6) rfl (by kernel_rfl) rfl ?_
          unfold wpMid
          simp only [opsAt_nil, opsAt_cons, consOpt_some, List.getElem?_toArray, List.getElem?_cons_zero, List.getElem?_cons_succ]
          have hBd := Nat.le_trans (Nat.le_trans hsB (Nat.le_of_lt hys)) hbd.size
          have BH1 := BH wd (hr.below (hbd.mono (Nat.le_trans hsB (Nat.le_of_lt hys)))) (hdr.below (hbd.mono (Nat.le_trans hsB (Nat.le_of_lt hys)))) hBd
          go_wp2_with (go_at_call 75; refine BH1.mono ?_; rintro e w5 ⟨rfl, hb5⟩)
          have hb05 := hbd.trans (hb5.mono hbd.size)
          refine onlyNormal_mk ⟨⟨⟨_, hb05⟩, rfl⟩, ?_⟩
          refine wpE_tail rfl (by kernel_rfl) ?_
          simp only [opsAt_nil, opsAt_cons, consOpt_some, List.getElem?_toArray, List.getElem?_cons_zero, List.getElem?_cons_succ]
          go_wp2
          refine onlyNormal_mk ?_
          have hy5 := (hb05.block y hys).trans hy
          have e5' := kept hb05 e5
          have HB5 := Lib.hid (HBT.out.trans (hb05.mono (Nat.le_of_lt hys)))
          have hys5 := lt_of_block hy5
          clear hb05 hb5 hbd BH BH1 hy e5 c0 c1 hr hdr hFr
          have t0' := (cell_of_row w5 y 0 _ _ _ hy5).trans (by rfl : _ = some (.int .i64 o1))
          have t1' := (cell_of_row w5 y 1 _ _ _ hy5).trans (by rfl : _ = some (.int .i64 o2))
          go_upto_region 17 with (fail)
          by_cases ht0 : t = 0
          · subst ht0
            have HT : Hid (scanGo (fun p => reachGo l p (-1) ds) (0 + 1) (p, fp) (acc.drop (0 + 1)) = R) := by
              have := HSC.out
              rw [if_pos (.inl rfl)] at this
              exact this
            clear HSC
            have x0 := fun z : Xt w5 => z.cell t0'
            have x1 := fun z : Xt w5 => z.cell t1'
            have e7 : w5.cell? ⟨bF, offF, none⟩ = some (.int .i64 p) := e5'
            have x2 := fun z : Xt w5 => z.cell e7
            refine wp_region_xt (by kernel_rfl) (by kernel_rfl) ?_
            repeat (go_big_quiet_step (fail))
            refine wpQuiet_nil ?_
            intro w6 hx
            have hb6 := Xt.below hx
            clear hx x0 x1 x2
            have hy6 := (hb6.block y hys5).trans hy5
            have e6 := kept hb6 e7
            have HB6 := Lib.hid (HB5.out.trans (hb6.mono (Nat.le_of_lt hys5)))
            clear hb6 t0' t1' hy5 e5' e7
            have z0 := (cell_of_row w6 y 0 _ _ _ hy6).trans (by rfl : _ = some (.int .i64 o1))
            have z1 := (cell_of_row w6 y 1 _ _ _ hy6).trans (by rfl : _ = some (.int .i64 o2))
            have g0 := frozen_of_row w6 y 0 _ _ hy6
            have g1 := frozen_of_row w6 y 1 _ _ hy6
            have hyN : ((w6.setCell ⟨y, 0, none⟩ (.int .i64 p)).setCell ⟨y, 1, none⟩ (.int .i64 fp)).heap[y]? = some (.cells #[.int .i64 p, .int .i64 fp] 108 (0, 0)) := by
              rw [heapq_set, if_pos rfl, heapq_set, if_pos rfl, hy6]
              simp [objSet_cells]
            have hbN : Below y wq ((w6.setCell ⟨y, 0, none⟩ (.int .i64 p)).setCell ⟨y, 1, none⟩ (.int .i64 fp)) := (HB6.out.setCell (p := ⟨y, 0, none⟩) (Nat.le_refl _) _).setCell (p := ⟨y, 1, none⟩) (Nat.le_refl _) _
            have HREL := Lib.hid (show ScanWRel wq y (fun p => reachGo l p (-1) ds) acc R (.int .i64 1) ((w6.setCell ⟨y, 0, none⟩ (.int .i64 p)).setCell ⟨y, 1, none⟩ (.int .i64 fp)) from ⟨1, p, fp, by omega, by go_num, hyN, HT.out, hbN⟩)
            clear hyN hbN hy6
            go_wp2
            generalize (w6.setCell ⟨y, 0, none⟩ (.int .i64 p)).setCell ⟨y, 1, none⟩ (.int .i64 fp) = w7 at *
            go_roundw
            case rel => exact HREL.out
            case measure => simp [intOf]; omega
          · have n0 : ((t : Int) == 0) = false := beq_eq_false_iff_ne.2 (by omega)
            by_cases h1 : o2 < fp
            · have n1 : decide (o2 < fp) = true := decide_eq_true h1
              have HT : Hid (scanGo (fun p => reachGo l p (-1) ds) (t + 1) (p, fp) (acc.drop (t + 1)) = R) := by
                have := HSC.out
                rw [if_pos (.inr (.inl h1))] at this
                exact this
              clear ht0 h1
              clear HSC
              have x0 := fun z : Xt w5 => z.cell t0'
              have x1 := fun z : Xt w5 => z.cell t1'
              have x2 := fun z : Xt w5 => z.cell e5'
              refine wp_region_xt (by kernel_rfl) (by kernel_rfl) ?_
              repeat (go_big_quiet_step (fail))
              refine wpQuiet_nil ?_
              intro w6 hx
              have hb6 := Xt.below hx
              clear hx x0 x1 x2 n0 n1
              have hy6 := (hb6.block y hys5).trans hy5
              have e6 := kept hb6 e5'
              have HB6 := Lib.hid (HB5.out.trans (hb6.mono (Nat.le_of_lt hys5)))
              clear hb6 t0' t1' hy5 e5'
              have z0 := (cell_of_row w6 y 0 _ _ _ hy6).trans (by rfl : _ = some (.int .i64 o1))
              have z1 := (cell_of_row w6 y 1 _ _ _ hy6).trans (by rfl : _ = some (.int .i64 o2))
              have g0 := frozen_of_row w6 y 0 _ _ hy6
              have g1 := frozen_of_row w6 y 1 _ _ hy6
              have hyN : ((w6.setCell ⟨y, 0, none⟩ (.int .i64 p)).setCell ⟨y, 1, none⟩ (.int .i64 fp)).heap[y]? = some (.cells #[.int .i64 p, .int .i64 fp] 108 (0, 0)) := by
                rw [heapq_set, if_pos rfl, heapq_set, if_pos rfl, hy6]
                simp [objSet_cells]
              have hbN : Below y wq ((w6.setCell ⟨y, 0, none⟩ (.int .i64 p)).setCell ⟨y, 1, none⟩ (.int .i64 fp)) := (HB6.out.setCell (p := ⟨y, 0, none⟩) (Nat.le_refl _) _).setCell (p := ⟨y, 1, none⟩) (Nat.le_refl _) _
              have HREL := Lib.hid (show ScanWRel wq y (fun p => reachGo l p (-1) ds) acc R (.int .i64 ((t : Int) + 1)) ((w6.setCell ⟨y, 0, none⟩ (.int .i64 p)).setCell ⟨y, 1, none⟩ (.int .i64 fp)) from ⟨t + 1, p, fp, by omega, by go_num, hyN, HT.out, hbN⟩)
              clear hyN hbN hy6
              go_wp2
              generalize (w6.setCell ⟨y, 0, none⟩ (.int .i64 p)).setCell ⟨y, 1, none⟩ (.int .i64 fp) = w7 at *
              go_roundw
              case rel => exact HREL.out
              case measure => simp [intOf]; omega
            · have n1 : decide (o2 < fp) = false := decide_eq_false h1
              by_cases h2 : fp = o2
              · have n2 : (fp == o2) = true := beq_iff_eq.2 h2
                by_cases h3 : p < o1
                · have n3 : decide (p < o1) = true := decide_eq_true h3
                  have HT : Hid (scanGo (fun p => reachGo l p (-1) ds) (t + 1) (p, fp) (acc.drop (t + 1)) = R) := by
                    have := HSC.out
                    rw [if_pos (.inr (.inr ⟨h2, h3⟩))] at this
                    exact this
                  clear ht0 h1 h2 h3
                  clear HSC
                  have x0 := fun z : Xt w5 => z.cell t0'
                  have x1 := fun z : Xt w5 => z.cell t1'
                  have x2 := fun z : Xt w5 => z.cell e5'
                  refine wp_region_xt (by kernel_rfl) (by kernel_rfl) ?_
                  repeat (go_big_quiet_step (fail))
                  refine wpQuiet_nil ?_
                  intro w6 hx
                  have hb6 := Xt.below hx
                  clear hx x0 x1 x2 n0 n1 n2 n3
                  have hy6 := (hb6.block y hys5).trans hy5
                  have e6 := kept hb6 e5'
                  have HB6 := Lib.hid (HB5.out.trans (hb6.mono (Nat.le_of_lt hys5)))
                  clear hb6 t0' t1' hy5 e5'
                  have z0 := (cell_of_row w6 y 0 _ _ _ hy6).trans (by rfl : _ = some (.int .i64 o1))
                  have z1 := (cell_of_row w6 y 1 _ _ _ hy6).trans (by rfl : _ = some (.int .i64 o2))
                  have g0 := frozen_of_row w6 y 0 _ _ hy6
                  have g1 := frozen_of_row w6 y 1 _ _ hy6
                  have hyN : ((w6.setCell ⟨y, 0, none⟩ (.int .i64 p)).setCell ⟨y, 1, none⟩ (.int .i64 fp)).heap[y]? = some (.cells #[.int .i64 p, .int .i64 fp] 108 (0, 0)) := by
                    rw [heapq_set, if_pos rfl, heapq_set, if_pos rfl, hy6]
                    simp [objSet_cells]
                  have hbN : Below y wq ((w6.setCell ⟨y, 0, none⟩ (.int .i64 p)).setCell ⟨y, 1, none⟩ (.int .i64 fp)) := (HB6.out.setCell (p := ⟨y, 0, none⟩) (Nat.le_refl _) _).setCell (p := ⟨y, 1, none⟩) (Nat.le_refl _) _
                  have HREL := Lib.hid (show ScanWRel wq y (fun p => reachGo l p (-1) ds) acc R (.int .i64 ((t : Int) + 1)) ((w6.setCell ⟨y, 0, none⟩ (.int .i64 p)).setCell ⟨y, 1, none⟩ (.int .i64 fp)) from ⟨t + 1, p, fp, by omega, by go_num, hyN, HT.out, hbN⟩)
                  clear hyN hbN hy6
                  go_wp2
                  generalize (w6.setCell ⟨y, 0, none⟩ (.int .i64 p)).setCell ⟨y, 1, none⟩ (.int .i64 fp) = w7 at *
                  go_roundw
                  case rel => exact HREL.out
                  case measure => simp [intOf]; omega
                · have n3 : decide (p < o1) = false := decide_eq_false h3
                  have HT : Hid (scanGo (fun p => reachGo l p (-1) ds) (t + 1) (o1, o2) (acc.drop (t + 1)) = R) := by
                    have := HSC.out
                    rw [if_neg (by omega)] at this
                    exact this
                  clear ht0 h1 h2 h3
                  clear HSC
                  have x0 := fun z : Xt w5 => z.cell t0'
                  have x1 := fun z : Xt w5 => z.cell t1'
                  have x2 := fun z : Xt w5 => z.cell e5'
                  refine wp_region_xt (by kernel_rfl) (by kernel_rfl) ?_
                  repeat (go_big_quiet_step (fail))
                  refine wpQuiet_nil ?_
                  intro w6 hx
                  have hb6 := Xt.below hx
                  clear hx x0 x1 x2 n0 n1 n2 n3
                  have hy6 := (hb6.block y hys5).trans hy5
                  have e6 := kept hb6 e5'
                  have HB6 := Lib.hid (HB5.out.trans (hb6.mono (Nat.le_of_lt hys5)))
                  clear hb6 t0' t1' hy5 e5'
                  clear e6
                  go_wp2
                  go_roundw
                  case rel => exact ⟨t + 1, o1, o2, by omega, by go_num, hy6, HT.out, HB6.out⟩
                  case measure => simp [intOf]; omega
              · have n2 : (fp == o2) = false := beq_eq_false_iff_ne.2 h2
                have HT : Hid (scanGo (fun p => reachGo l p (-1) ds) (t + 1) (o1, o2) (acc.drop (t + 1)) = R) := by
                  have := HSC.out
                  rw [if_neg (by omega)] at this
                  exact this
                clear ht0 h1 h2
                clear HSC
                have x0 := fun z : Xt w5 => z.cell t0'
                have x1 := fun z : Xt w5 => z.cell t1'
                have x2 := fun z : Xt w5 => z.cell e5'
                refine wp_region_xt (by kernel_rfl) (by kernel_rfl) ?_
                repeat (go_big_quiet_step (fail))
                refine wpQuiet_nil ?_
                intro w6 hx
                have hb6 := Xt.below hx
                clear hx x0 x1 x2 n0 n1 n2
                have hy6 := (hb6.block y hys5).trans hy5
                have e6 := kept hb6 e5'
                have HB6 := Lib.hid (HB5.out.trans (hb6.mono (Nat.le_of_lt hys5)))
                clear hb6 t0' t1' hy5 e5'
                clear e6
                go_wp2
                go_roundw
                case rel => exact ⟨t + 1, o1, o2, by omega, by go_num, hy6, HT.out, HB6.out⟩
                case measure => simp [intOf]; omega
        · obtain rfl : t = acc.length := by omega
          have hV : Hid ((o1, o2) = R) := by
            have := HSC_.out
            rw [List.drop_length, scanGo] at this
            exact this
          have t0' := (cell_of_row wr y 0 _ _ _ hy).trans (by rfl : _ = some (.int .i64 o1))
          have t1' := (cell_of_row wr y 1 _ _ _ hy).trans (by rfl : _ = some (.int .i64 o2))
          have hkr : wr.heap[w.heap.size + 1]? = some (.cells #[.int .i64 0, .int .i64 0] 108 (0, 0)) := by rw [HBT.out.block (w.heap.size + 1) hxy]; exact KQ.out
          have r0 := (cell_of_row wr (w.heap.size + 1) 0 _ _ _ hkr).trans (by rfl : _ = some (.int .i64 0))
          have r1 := (cell_of_row wr (w.heap.size + 1) 1 _ _ _ hkr).trans (by rfl : _ = some (.int .i64 0))
          have q0 := frozen_of_row wr (w.heap.size + 1) 0 _ _ hkr
          have q1 := frozen_of_row wr (w.heap.size + 1) 1 _ _ hkr
          have HBE := Lib.hid (HBQ.out.trans (HBT.out.mono (by omega)))
          clear hkr hr hdr hFr c0 c1
          go_wp2
          refine bodyPost_ret (v := .agg #[.int .i64 o1, .int .i64 o2]) (by simp [results, Tryd.results73, go_sem, r0, r1]) rfl ⟨?_, ?_⟩
          · have h3 := HR.out
            rw [← hV.out] at h3
            rw [h3]
          · exact (HBE.out.setCell (p := ⟨w.heap.size + 1, 0, none⟩) (Nat.le_add_right _ 1) _).setCell (p := ⟨w.heap.size + 1, 1, none⟩) (Nat.le_add_right _ 1) _
end Go.Proofs.YtmcjnfghlpnghaaDoor

namespace Go.Proofs.YtmcjnfghlpnghaaDoor

theorem sub_of_sorted : ∀ (S T : List Int), S.Pairwise (· < ·) → T.Pairwise (· < ·) → (∀ t ∈ T, t ∈ S) → T.Sublist S
  | [], T, _, _, h => by
    cases T with
    | nil => exact .slnil
    | cons t T => exact absurd (h t (by simp)) (by simp)
  | s :: S, [], _, _, _ => List.nil_sublist _
  | s :: S, t :: T, hS, hT, h => by
    rw [List.pairwise_cons] at hS hT
    by_cases hst : t = s
    · subst hst
      refine (sub_of_sorted S T hS.2 hT.2 fun x hx => ?_).cons_cons _
      have h1 := hT.1 x hx
      rcases List.mem_cons.1 (h x (by simp [hx])) with rfl | h2
      · omega
      · exact h2
    · have hts : t ∈ S := by
        rcases List.mem_cons.1 (h t (by simp)) with h1 | h1
        · exact absurd h1 hst
        · exact h1
      have hlt := hS.1 t hts
      refine (sub_of_sorted S (t :: T) hS.2 (List.pairwise_cons.2 hT) fun x hx => ?_).cons _
      rcases List.mem_cons.1 hx with rfl | hx'
      · exact hts
      · have h1 := hT.1 x hx'
        rcases List.mem_cons.1 (h x hx) with rfl | h2
        · omega
        · exact h2

/-- all sets of so many of some beams, in their order -/
def setsZ : List Int → Nat → List (List Int)
  | _, 0 => [[]]
  | [], _ + 1 => []
  | x :: l, k + 1 => (setsZ l k).map (x :: ·) ++ setsZ l (k + 1)
theorem setsZ_mem : ∀ (l : List Int) (k : Nat) (T : List Int), T ∈ setsZ l k ↔ T.Sublist l ∧ T.length = k
  | l, 0, T => by
    have hz : setsZ l 0 = [[]] := by cases l <;> rfl
    rw [hz, List.mem_singleton]
    constructor
    · rintro rfl
      exact ⟨List.nil_sublist _, rfl⟩
    · rintro ⟨_, h⟩
      exact List.eq_nil_of_length_eq_zero h
  | [], k + 1, T => by
    simp only [setsZ, List.not_mem_nil, false_iff]
    rintro ⟨h1, h2⟩
    rw [List.sublist_nil.1 h1] at h2
    simp at h2
  | x :: l, k + 1, T => by
    rw [setsZ, List.mem_append, List.mem_map, setsZ_mem l (k + 1) T]
    constructor
    · rintro (⟨U, hU, rfl⟩ | ⟨h1, h2⟩)
      · obtain ⟨h1, h2⟩ := (setsZ_mem l k U).1 hU
        exact ⟨h1.cons_cons _, by simp [h2]⟩
      · exact ⟨h1.cons _, h2⟩
    · rintro ⟨h1, h2⟩
      cases h1 with
      | cons _ h => exact .inr ⟨h, h2⟩
      | @cons_cons U _ _ h =>
        refine .inl ⟨U, (setsZ_mem l k U).2 ⟨h, by simpa using h2⟩, rfl⟩

theorem find_flat {p : List Int → Bool} (f : Nat → List (List Int)) : ∀ (ks : List Nat) (k : Nat) (pre suf : List Nat), ks = pre ++ k :: suf → (∀ j ∈ pre, (f j).find? p = none) → ∀ T, (f k).find? p = some T → (ks.flatMap f).find? p = some T := by
  rintro ks k pre suf rfl hn T hT
  rw [List.flatMap_append, List.find?_append, List.flatMap_cons, List.find?_append, hT]
  have : (pre.flatMap f).find? p = none := by
    rw [List.find?_eq_none]
    intro x hx
    obtain ⟨j, hj, hx⟩ := List.mem_flatMap.1 hx
    exact List.find?_eq_none.1 (hn j hj) x hx
  rw [this]
  rfl
end Go.Proofs.YtmcjnfghlpnghaaDoor

namespace Go.Proofs.YtmcjnfghlpnghaaDoor

theorem min_ex (f : Nat → Int) : ∀ (l : List Nat), l ≠ [] → ∃ a ∈ l, ∀ b ∈ l, f a ≤ f b
  | [], h => absurd rfl h
  | [a], _ => ⟨a, by simp, fun b hb => by
    obtain rfl : b = a := by simpa using hb
    exact Int.le_refl _⟩
  | a :: b :: l, _ => by
    obtain ⟨m, h1, h2⟩ := min_ex f (b :: l) (by simp)
    by_cases h : f a ≤ f m
    · refine ⟨a, by simp, fun x hx => ?_⟩
      rcases List.mem_cons.1 hx with rfl | hx
      · exact Int.le_refl _
      · have := h2 x hx
        omega
    · refine ⟨m, by simp at h1 ⊢; exact .inr h1, fun x hx => ?_⟩
      rcases List.mem_cons.1 hx with rfl | hx
      · omega
      · exact h2 x hx

theorem reachGo_spec {l : List Dep} {p : Int} (ok : ∀ d ∈ l, DepOk d) : ∀ (ds : List Nat) (best : Int), (0 ≤ best ∨ best < 0 ∧ ds ≠ []) →
    (∀ i ∈ ds, reachGo l p best ds ≤ behindM (l[i]?.getD (0, 0)) p) ∧ (0 ≤ best → reachGo l p best ds ≤ best) ∧ ((0 ≤ best ∧ reachGo l p best ds = best) ∨ ∃ i ∈ ds, reachGo l p best ds = behindM (l[i]?.getD (0, 0)) p)
  | [], best, h => by
    rcases h with h | ⟨_, h⟩
    · exact ⟨fun i hi => by simp at hi, fun _ => by simp [reachGo], .inl ⟨h, rfl⟩⟩
    · exact absurd rfl h
  | i :: ds, best, h => by
    have hd : 0 ≤ behindM (l[i]?.getD (0, 0)) p := by
      cases hi : l[i]? with
      | none => exact behindM_nonneg (d := (0, 0)) ⟨by omega, by omega, by omega, by omega⟩ p
      | some d => exact behindM_nonneg (ok d (List.mem_of_getElem? hi)) p
    rw [reachGo]
    generalize hb' : (if best < 0 ∨ behindM (l[i]?.getD (0, 0)) p < best then behindM (l[i]?.getD (0, 0)) p else best) = b'
    have hb0 : 0 ≤ b' := by
      rw [← hb']
      split <;> omega
    obtain ⟨h1, h2, h3⟩ := reachGo_spec (p := p) ok ds b' (.inl hb0)
    have h2' := h2 hb0
    refine ⟨fun k hk => ?_, fun h0 => ?_, ?_⟩
    · rcases List.mem_cons.1 hk with rfl | hk
      · split at hb' <;> omega
      · exact h1 k hk
    · split at hb' <;> omega
    · rcases h3 with ⟨_, h3⟩ | ⟨k, hk, h3⟩
      · by_cases hc : best < 0 ∨ behindM (l[i]?.getD (0, 0)) p < best
        · rw [if_pos hc] at hb'
          exact .inr ⟨i, by simp, by rw [h3, hb']⟩
        · rw [if_neg hc] at hb'
          exact .inl ⟨by omega, by rw [h3, hb']⟩
      · exact .inr ⟨k, by simp [hk], h3⟩

theorem meetK_acc {l : List Dep} {L : Int} {i : Nat} : ∀ (ks : List Nat) (acc : List Int) (x : Int), x ∈ acc → x ∈ meetK l L i acc ks
  | [], _, _, h => h
  | k :: ks, acc, x, h => by
    rw [meetK]
    refine meetK_acc ks _ x ?_
    split
    · simp [h]
    · exact h
theorem meetK_in {l : List Dep} {L : Int} {i : Nat} : ∀ (ks : List Nat) (acc : List Int), (∀ x ∈ acc, 0 ≤ x ∧ x ≤ 2 * L) → ∀ x ∈ meetK l L i acc ks, 0 ≤ x ∧ x ≤ 2 * L
  | [], _, h => h
  | k :: ks, acc, h => by
    rw [meetK]
    refine meetK_in ks _ fun x hx => ?_
    split at hx
    · rename_i hw
      rcases List.mem_append.1 hx with hx | hx
      · exact h x hx
      · obtain rfl : x = _ := by simpa using hx
        simpa [withinB] using hw
    · exact h x hx
theorem meetK_mem {l : List Dep} {L : Int} {i : Nat} : ∀ (ks : List Nat) (acc : List Int) (k : Nat), k ∈ ks → withinB (meetM l i k) 0 (2 * L) = true → meetM l i k ∈ meetK l L i acc ks
  | [], _, _, h, _ => by simp at h
  | j :: ks, acc, k, h, hw => by
    rw [meetK]
    rcases List.mem_cons.1 h with rfl | h
    · rw [if_pos hw]
      exact meetK_acc ks _ _ (by simp)
    · exact meetK_mem ks _ k h hw
theorem meetI_acc {l : List Dep} {L : Int} {ds : List Nat} : ∀ (is : List Nat) (acc : List Int) (x : Int), x ∈ acc → x ∈ meetI l L ds acc is
  | [], _, _, h => h
  | i :: is, acc, x, h => by
    rw [meetI]
    exact meetI_acc is _ x (meetK_acc ds acc x h)
theorem meetI_in {l : List Dep} {L : Int} {ds : List Nat} : ∀ (is : List Nat) (acc : List Int), (∀ x ∈ acc, 0 ≤ x ∧ x ≤ 2 * L) → ∀ x ∈ meetI l L ds acc is, 0 ≤ x ∧ x ≤ 2 * L
  | [], _, h => h
  | i :: is, acc, h => by
    rw [meetI]
    exact meetI_in is _ (meetK_in ds acc h)
theorem meetI_mem {l : List Dep} {L : Int} {ds : List Nat} : ∀ (is : List Nat) (acc : List Int) (i k : Nat), i ∈ is → k ∈ ds → withinB (meetM l i k) 0 (2 * L) = true → meetM l i k ∈ meetI l L ds acc is
  | [], _, _, _, h, _, _ => by simp at h
  | j :: is, acc, i, k, h, hk, hw => by
    rw [meetI]
    rcases List.mem_cons.1 h with rfl | h
    · exact meetI_acc is _ _ (meetK_mem ds acc k hk hw)
    · exact meetI_mem is _ i k h hk hw

theorem worst_best {l : List Dep} {L : Int} {ds : List Nat} (ok : ∀ d ∈ l, DepOk d) (h0 : ds ≠ []) : BestP (fun p => reachGo l p (-1) ds) (meetI l L ds [0, 2 * L] ds) (worstM l L ds) := by
  cases hx : meetI l L ds [0, 2 * L] ds with
  | nil =>
    have := meetI_acc (l := l) (L := L) (ds := ds) ds [0, 2 * L] 0 (by simp)
    rw [hx] at this
    simp at this
  | cons p ps =>
    rw [← refW_eq ok h0 hx]
    have h1 := refWGo_best (f := fun p => reachGo l p (-1) ds) ps [p] (p, reachGo l p (-1) ds) ⟨by simp, rfl, fun q hq => by
      obtain rfl : q = p := by simpa using hq
      simp⟩
    simpa using h1

/-- **No place is reached later than one of those that are looked at.** -/
theorem cand_ex {l : List Dep} {L : Int} {ds : List Nat} (ok : ∀ d ∈ l, DepOk d) (h0 : ds ≠ []) {p : Int} (hp : 0 ≤ p ∧ p ≤ 2 * L) :
    ∃ q ∈ meetI l L ds [0, 2 * L] ds, reachGo l p (-1) ds ≤ reachGo l q (-1) ds := by
  obtain ⟨hlo, _, _⟩ := reachGo_spec (p := p) ok ds (-1) (.inr ⟨by omega, h0⟩)
  have suff : ∀ q, (∀ i ∈ ds, reachGo l p (-1) ds ≤ behindM (l[i]?.getD (0, 0)) q) → reachGo l p (-1) ds ≤ reachGo l q (-1) ds := by
    intro q hq
    obtain ⟨_, _, h3⟩ := reachGo_spec (p := q) ok ds (-1) (.inr ⟨by omega, h0⟩)
    rcases h3 with ⟨h, _⟩ | ⟨i, hi, h⟩
    · omega
    · rw [h]
      exact hq i hi
  generalize reachGo l p (-1) ds = v at *
  let D : Nat → Dep := fun i => l[i]?.getD (0, 0)
  have hD : ∀ i, behindM (l[i]?.getD (0, 0)) p = 2 * (D i).2 + max (p - 2 * (D i).1) (-(p - 2 * (D i).1)) := fun i => rfl
  have hDq : ∀ i q, behindM (l[i]?.getD (0, 0)) q = 2 * (D i).2 + max (q - 2 * (D i).1) (-(q - 2 * (D i).1)) := fun i q => rfl
  have hm0 : (0 : Int) ∈ meetI l L ds [0, 2 * L] ds := meetI_acc ds _ _ (by simp)
  have hmL : 2 * L ∈ meetI l L ds [0, 2 * L] ds := meetI_acc ds _ _ (by simp)
  by_cases hl : ds.filter (fun i => decide (2 * (D i).1 ≤ p)) = []
  · -- all depots are behind the place
    rw [List.filter_eq_nil_iff] at hl
    refine ⟨0, hm0, suff 0 fun i hi => ?_⟩
    have h1 := hlo i hi
    have h2 := hl i hi
    rw [hD] at h1
    rw [hDq]
    simp at h2
    omega
  · obtain ⟨a, ha, hamin⟩ := min_ex (fun i => 2 * (D i).2 - 2 * (D i).1) _ hl
    rw [List.mem_filter] at ha
    have ha1 := hlo a ha.1
    have ha2 : 2 * (D a).1 ≤ p := by simpa using ha.2
    rw [hD] at ha1
    by_cases hr : ds.filter (fun i => decide (p < 2 * (D i).1)) = []
    · rw [List.filter_eq_nil_iff] at hr
      refine ⟨2 * L, hmL, suff _ fun i hi => ?_⟩
      have h1 := hlo i hi
      have h2 := hr i hi
      rw [hD] at h1
      rw [hDq]
      simp at h2
      omega
    · obtain ⟨b, hb, hbmin⟩ := min_ex (fun i => 2 * (D i).2 + 2 * (D i).1) _ hr
      rw [List.mem_filter] at hb
      have hb1 := hlo b hb.1
      have hb2 : p < 2 * (D b).1 := by simpa using hb.2
      rw [hD] at hb1
      -- each depot is behind both cones
      have hall : ∀ i ∈ ds, ∀ q, 2 * (D a).2 - 2 * (D a).1 + q ≤ behindM (l[i]?.getD (0, 0)) q ∨ 2 * (D b).2 + 2 * (D b).1 - q ≤ behindM (l[i]?.getD (0, 0)) q := by
        intro i hi q
        rw [hDq]
        by_cases hc : 2 * (D i).1 ≤ p
        · have := hamin i (by rw [List.mem_filter]; exact ⟨hi, by simpa using hc⟩)
          left
          omega
        · have := hbmin i (by rw [List.mem_filter]; exact ⟨hi, by simp; omega⟩)
          right
          omega
      have hmeet : meetM l a b = (D a).1 + (D b).1 + (D b).2 - (D a).2 := rfl
      by_cases hq : withinB (meetM l a b) 0 (2 * L) = true
      · refine ⟨_, meetI_mem ds _ a b ha.1 hb.1 hq, suff _ fun i hi => ?_⟩
        have := hall i hi (meetM l a b)
        rw [hmeet] at this ⊢
        omega
      · have hq' : meetM l a b < 0 ∨ 2 * L < meetM l a b := by
          simp only [withinB, Bool.and_eq_true, decide_eq_true_eq] at hq
          omega
        rw [hmeet] at hq'
        rcases hq' with hq' | hq'
        · refine ⟨0, hm0, suff 0 fun i hi => ?_⟩
          have := hall i hi 0
          omega
        · refine ⟨2 * L, hmL, suff _ fun i hi => ?_⟩
          have := hall i hi (2 * L)
          omega

/-- **The worst place is on the line, is reached just then, and no place is reached later.** -/
theorem worst_is {l : List Dep} {L : Int} {ds : List Nat} (ok : ∀ d ∈ l, DepOk d) (h0 : ds ≠ []) (hL : 0 ≤ L) :
    (0 ≤ (worstM l L ds).1 ∧ (worstM l L ds).1 ≤ 2 * L) ∧ reachGo l (worstM l L ds).1 (-1) ds = (worstM l L ds).2 ∧ ∀ p, 0 ≤ p → p ≤ 2 * L → reachGo l p (-1) ds ≤ (worstM l L ds).2 := by
  obtain ⟨h1, h2, h3⟩ := worst_best (L := L) ok h0
  refine ⟨meetI_in ds [0, 2 * L] (fun x hx => by simp at hx; omega) _ h1, h2.symm, fun p hp0 hp1 => ?_⟩
  obtain ⟨q, hq, hle⟩ := cand_ex ok h0 ⟨hp0, hp1⟩
  have := h3 q hq
  simp only at this
  omega

theorem setsM_mem : ∀ (l : List Nat) (k : Nat) (T : List Nat), T ∈ setsM l k ↔ T.Sublist l ∧ T.length = k
  | l, 0, T => by
    have hz : setsM l 0 = [[]] := by cases l <;> rfl
    rw [hz, List.mem_singleton]
    constructor
    · rintro rfl
      exact ⟨List.nil_sublist _, rfl⟩
    · rintro ⟨_, h⟩
      exact List.eq_nil_of_length_eq_zero h
  | [], k + 1, T => by
    simp only [setsM, List.not_mem_nil, false_iff]
    rintro ⟨h1, h2⟩
    rw [List.sublist_nil.1 h1] at h2
    simp at h2
  | x :: l, k + 1, T => by
    rw [setsM, List.mem_append, List.mem_map, setsM_mem l (k + 1) T]
    constructor
    · rintro (⟨U, hU, rfl⟩ | ⟨h1, h2⟩)
      · obtain ⟨h1, h2⟩ := (setsM_mem l k U).1 hU
        exact ⟨h1.cons_cons _, by simp [h2]⟩
      · exact ⟨h1.cons _, h2⟩
    · rintro ⟨h1, h2⟩
      cases h1 with
      | cons _ h => exact .inr ⟨h, h2⟩
      | @cons_cons U _ _ h =>
        refine .inl ⟨U, (setsM_mem l k U).2 ⟨h, by simpa using h2⟩, rfl⟩
/-- sets of numbers as values -/
theorem setsZ_cast : ∀ (l : List Nat) (k : Nat), setsZ (l.map fun (i : Nat) => (i : Int)) k = (setsM l k).map fun T => T.map fun (i : Nat) => (i : Int)
  | l, 0 => by cases l <;> rfl
  | [], k + 1 => rfl
  | x :: l, k + 1 => by
    rw [List.map_cons, setsZ, setsZ_cast l k, setsZ_cast l (k + 1), setsM, List.map_append, List.map_map, List.map_map]
    rfl

theorem depsGo_sorted {n : Nat} : ∀ (ds : List Int) (last : Int), depsGo n last ds = 0 → ds.Pairwise (· < ·) ∧ ∀ d ∈ ds, last < d
  | [], _, _ => ⟨.nil, fun d h => by simp at h⟩
  | d :: ds, last, h => by
    obtain ⟨_, h2, h3⟩ := depsGo_cons h
    obtain ⟨g1, g2⟩ := depsGo_sorted ds d h3
    refine ⟨List.pairwise_cons.2 ⟨g2, g1⟩, fun x hx => ?_⟩
    rcases List.mem_cons.1 hx with rfl | hx
    · exact h2
    · have := g2 x hx
      omega
theorem depsGo_of {n : Nat} : ∀ (ds : List Int) (last : Int), ds.Pairwise (· < ·) → (∀ d ∈ ds, last < d ∧ 0 ≤ d ∧ d < n) → depsGo n last ds = 0
  | [], _, _, _ => rfl
  | d :: ds, last, h, hd => by
    rw [List.pairwise_cons] at h
    have h1 := hd d (by simp)
    rw [depsGo_eq, dE_0 (by simp [withinB]; omega) h1.1, if_pos rfl]
    exact depsGo_of ds d h.2 fun x hx => ⟨h.1 x hx, (hd x (by simp [hx])).2⟩

/-- right depots are one of the sets -/
theorem deps_set {n : Nat} {ds : List Int} (h : depsGo n (-1) ds = 0) (h0 : ds ≠ []) : ds.map Int.toNat ∈ refSets n := by
  have hm := depsGo_mem ds (-1) h
  obtain ⟨hp, _⟩ := depsGo_sorted ds (-1) h
  have hsub : (ds.map Int.toNat).Sublist (List.range n) := by
    have hc : ((ds.map Int.toNat).map fun (i : Nat) => (i : Int)) = ds := by
      rw [List.map_map]
      conv => rhs; rw [← List.map_id ds]
      refine List.map_congr_left fun d hd => ?_
      have := hm d hd
      simp
      omega
    have h1 := sub_of_sorted ((List.range n).map fun (i : Nat) => (i : Int)) ds (by
      rw [List.pairwise_map]
      exact List.pairwise_lt_range.imp fun h => Int.ofNat_lt.2 h) hp (fun t ht => by
      have := hm t ht
      rw [List.mem_map]
      exact ⟨t.toNat, by rw [List.mem_range]; omega, by omega⟩)
    have h2 := h1.map Int.toNat
    rw [List.map_map] at h2
    have : (Int.toNat ∘ fun (i : Nat) => (i : Int)) = id := by
      funext i
      simp
    rw [this, List.map_id] at h2
    exact h2
  have hlen := hsub.length_le
  rw [List.length_range] at hlen
  have hpos : 0 < (ds.map Int.toNat).length := by
    rw [List.length_map]
    exact List.length_pos_iff.2 h0
  unfold refSets
  rw [List.mem_flatMap]
  refine ⟨(ds.map Int.toNat).length - 1, by rw [List.mem_range]; omega, ?_⟩
  rw [setsM_mem]
  exact ⟨hsub, by omega⟩
theorem set_deps {n : Nat} {S : List Nat} (h : S ∈ refSets n) : S ≠ [] ∧ depsGo n (-1) (S.map fun (i : Nat) => (i : Int)) = 0 ∧ S.length ≤ n ∧ ∀ i ∈ S, i < n := by
  unfold refSets at h
  obtain ⟨k, hk, h⟩ := List.mem_flatMap.1 h
  rw [List.mem_range] at hk
  obtain ⟨h1, h2⟩ := (setsM_mem _ _ _).1 h
  have hlt : ∀ i ∈ S, i < n := fun i hi => by simpa using h1.subset hi
  refine ⟨fun hn => by rw [hn] at h2; simp at h2, depsGo_of _ _ ?_ ?_, by omega, hlt⟩
  · rw [List.pairwise_map]
    exact (List.pairwise_lt_range.sublist h1).imp fun h => Int.ofNat_lt.2 h
  · intro d hd
    obtain ⟨i, hi, rfl⟩ := List.mem_map.1 hd
    have := hlt i hi
    omega

/-- the fewest depots -/
def fewestM (l : List Dep) (L most : Int) (n : Nat) : Option (List Nat) := bestGo (fun ds => decide ((worstM l L ds).2 ≤ 2 * most)) none (careSets n)
theorem fewestM_some {l : List Dep} {L most : Int} {n : Nat} (hn : n ≤ 5) {S : List Nat} (h : fewestM l L most n = some S) : S ∈ refSets n ∧ (worstM l L S).2 ≤ 2 * most ∧ ∀ U ∈ refSets n, (worstM l L U).2 ≤ 2 * most → S.length ≤ U.length := by
  have a := bestGo_best (ok := fun ds => decide ((worstM l L ds).2 ≤ 2 * most)) (careSets n) [] none (fun x hx => by simp at hx)
  rw [List.nil_append] at a
  unfold fewestM at h
  rw [h] at a
  obtain ⟨h1, h2, h3⟩ := a
  obtain ⟨_, g2, g3⟩ := sets_same n (by omega)
  refine ⟨g2 S h1, by simpa using h2, fun U hU hUo => ?_⟩
  have := h3 U (g3 U hU) (by simpa using hUo)
  simp only [ltB, Bool.or_eq_false_iff, decide_eq_false_iff_not] at this
  omega
theorem fewestM_none {l : List Dep} {L most : Int} {n : Nat} (hn : n ≤ 5) (h : fewestM l L most n = none) : ∀ U ∈ refSets n, 2 * most < (worstM l L U).2 := by
  have a := bestGo_best (ok := fun ds => decide ((worstM l L ds).2 ≤ 2 * most)) (careSets n) [] none (fun x hx => by simp at hx)
  rw [List.nil_append] at a
  unfold fewestM at h
  rw [h] at a
  obtain ⟨_, _, g3⟩ := sets_same n (by omega)
  intro U hU
  have := a U (g3 U hU)
  simp at this
  omega
end Go.Proofs.YtmcjnfghlpnghaaDoor

namespace Go.Proofs.YtmcjnfghlpnghaaDoor
open Go.RowKit

def cmpI (a b : Int) : Int := if a < b then -1 else if b < a then 1 else 0
def orI (a b : Int) : Int := if a = 0 then b else a
def cmpL : List Int → List Int → Int
  | [], [] => 0
  | [], _ :: _ => -1
  | _ :: _, [] => 1
  | x :: l, y :: m => if cmpI x y = 0 then cmpL l m else cmpI x y

theorem Compare_any (a b : Int) (w : World) : Calls Tryd.prog 128 #[.int .i64 a, .int .i64 b] w fun e w' => e = .returned (.int .i64 (cmpI a b)) ∧ w = w' := by
  unfold cmpI
  by_cases h1 : a < b
  · rw [if_pos h1]
    go_enter Tryd.func128, Tryd.ntmps128
    go_wp2_with (go_at_call 161; refine (Tryd.cmp_isNaN_int2 _ _).mono ?_; rintro e w' ⟨rfl, rfl⟩)
    go_ret
    exact ⟨rfl, rfl⟩
  · rw [if_neg h1]
    by_cases h2 : b < a
    · rw [if_pos h2]
      go_enter Tryd.func128, Tryd.ntmps128
      go_wp2_with (go_at_call 161; refine (Tryd.cmp_isNaN_int2 _ _).mono ?_; rintro e w' ⟨rfl, rfl⟩)
      go_ret
      exact ⟨rfl, rfl⟩
    · rw [if_neg h2]
      go_enter Tryd.func128, Tryd.ntmps128
      go_wp2_with (go_at_call 161; refine (Tryd.cmp_isNaN_int2 _ _).mono ?_; rintro e w' ⟨rfl, rfl⟩)
      go_ret
      exact ⟨rfl, rfl⟩

theorem Or_any (a b : Int) (g c : Nat) (w : World) (h0 : w.cell? ⟨g, 0, none⟩ = some (.int .i64 a)) (h1 : w.cell? ⟨g, 1, none⟩ = some (.int .i64 b)) :
    Calls Tryd.prog 127 #[.slice (some ⟨g, 0, none⟩) 2 c] w fun e w' => e = .returned (.int .i64 (orI a b)) ∧ w = w' := by
  unfold orI
  by_cases ha : a = 0
  · rw [if_pos ha]
    by_cases hb : b = 0
    · go_enter Tryd.func127, Tryd.ntmps127
      go_wp2
      go_loop [5, 8] (fun _ i => ∃ k : Nat, k ≤ 2 ∧ i = .int .i64 k) (fun _ i => 2 - (intOf i).toNat)
      case atStart => exact ⟨0, Nat.zero_le _, rfl⟩
      case round =>
        obtain ⟨k, hk, rfl⟩ := hrel
        by_cases hlt : k < 2
        · have hc : ∃ v : Int, w.cell? ⟨g, k, none⟩ = some (.int .i64 v) ∧ (v != 0) = false := by
            rcases (by omega : k = 0 ∨ k = 1) with rfl | rfl
            · exact ⟨a, h0, by rw [ha]; rfl⟩
            · exact ⟨b, h1, by rw [hb]; rfl⟩
          obtain ⟨v, hc, hv⟩ := hc
          clear ha hb h0 h1
          go_wp2
          go_round
          case rel => exact ⟨k + 1, by omega, by go_num⟩
          case measure => simp [intOf]; omega
        · go_wp2
          go_ret
          exact ⟨rfl, rfl⟩
    · have hv : (b != 0) = true := bne_iff_ne.2 hb
      have ha' : (a != 0) = false := by rw [ha]; rfl
      have HA := Lib.hid ha
      clear ha hb
      go_enter Tryd.func127, Tryd.ntmps127
      go_wp2
      go_loop [5, 8] (fun _ i => ∃ k : Nat, k ≤ 1 ∧ i = .int .i64 k) (fun _ i => 2 - (intOf i).toNat)
      case atStart => exact ⟨0, Nat.zero_le _, rfl⟩
      case round =>
        obtain ⟨k, hk, rfl⟩ := hrel
        rcases (by omega : k = 0 ∨ k = 1) with rfl | rfl
        · go_wp2
          go_round
          case rel => exact ⟨1, by omega, by go_num⟩
          case measure => simp [intOf]
        · go_wp2
          go_ret
          exact ⟨rfl, rfl⟩
  · rw [if_neg ha]
    have hv : (a != 0) = true := bne_iff_ne.2 ha
    clear ha
    go_enter Tryd.func127, Tryd.ntmps127
    go_wp2
    go_loop [5, 8] (fun _ i => i = .int .i64 0) (fun _ i => 2 - (intOf i).toNat)
    case atStart => rfl
    case round =>
      obtain rfl := hrel
      go_wp2
      go_ret
      exact ⟨rfl, rfl⟩

set_option maxHeartbeats 4000000 in
theorem SliceCompare_any (A1 A2 : Option Addr) (n1 n2 c1 c2 B1 B2 : Nat) (l m : List Int) (w : World) (hn : n1 ≤ 1000000) (hl : l.length = n1) (hm : m.length = n2) (h1 : Rd w B1 A1 (intCells l)) (h2 : Rd w B2 A2 (intCells m)) :
    Calls Tryd.prog 129 #[.slice A1 n1 c1, .slice A2 n2 c2] w fun e w' => e = .returned (.int .i64 (cmpL l m)) ∧ w = w' := by
  obtain ⟨V, hV⟩ : ∃ V, cmpL l m = V := ⟨_, rfl⟩
  rw [hV]
  have HV := Lib.hid hV
  have HL := Lib.hid hl
  have HM := Lib.hid hm
  clear hV hl hm
  have C := fun a b W => Compare_any a b W
  go_enter Tryd.func129, Tryd.ntmps129
  go_wp2
  go_loop [5, 6, 7, 8, 11] (fun _ _ _ _ i => ∃ k : Nat, k ≤ n1 ∧ k ≤ n2 ∧ i = .int .i64 k ∧ cmpL (l.drop k) (m.drop k) = V) (fun _ _ _ _ i => n1 - (intOf i).toNat)
  case atStart => exact ⟨0, Nat.zero_le _, Nat.zero_le _, rfl, by rw [List.drop_zero, List.drop_zero]; exact HV.out⟩
  case round =>
    obtain ⟨k, hk1, hk2, rfl, he⟩ := hrel
    have HE := Lib.hid he
    clear he
    by_cases hlt : k < n1
    · have hkl : k < l.length := by rw [HL.out]; exact hlt
      obtain ⟨b1, o1, rfl, _, e1⟩ := h1.at_ (intCells_at l k hkl)
      have HS1 := Lib.hid (drop_at l 0 k hkl)
      generalize l[k]?.getD 0 = x at *
      by_cases hlt2 : k < n2
      · have hkm : k < m.length := by rw [HM.out]; exact hlt2
        obtain ⟨b2, o2, rfl, _, e2⟩ := h2.at_ (intCells_at m k hkm)
        have HS2 := Lib.hid (drop_at m 0 k hkm)
        generalize m[k]?.getD 0 = y at *
        by_cases hc : cmpI x y = 0
        · have HC : Hid (cmpL (l.drop (k + 1)) (m.drop (k + 1)) = V) := by
            have := HE.out
            rw [HS1.out, HS2.out, cmpL, if_pos hc] at this
            exact this
          have hc' : (cmpI x y != 0) = false := by rw [hc]; rfl
          clear hc hkm hkl
          go_wp2_with (go_at_call 128; refine (C _ _ _).mono ?_; rintro e w' ⟨rfl, rfl⟩)
          go_round
          case rel => exact ⟨k + 1, by omega, by omega, by go_num, HC.out⟩
          case measure => simp [intOf]; omega
        · have HC : Hid (cmpI x y = V) := by
            have := HE.out
            rw [HS1.out, HS2.out, cmpL, if_neg hc] at this
            exact this
          have hc' : (cmpI x y != 0) = true := bne_iff_ne.2 hc
          clear hc hkm hkl
          go_wp2_with (go_at_call 128; refine (C _ _ _).mono ?_; rintro e w' ⟨rfl, rfl⟩)
          go_ret
          exact ⟨by rw [HC.out]; rfl, rfl⟩
      · have HC : Hid (V = 1) := by
          have := HE.out
          rw [HS1.out, show m.drop k = [] by rw [List.drop_eq_nil_iff, HM.out]; omega, cmpL] at this
          exact this.symm
        clear hkl
        go_wp2
        go_ret
        exact ⟨by rw [HC.out]; rfl, rfl⟩
    · obtain rfl : k = n1 := by omega
      have hd : l.drop k = [] := by rw [List.drop_eq_nil_iff, HL.out]; exact Nat.le_refl _
      by_cases hlt2 : k < n2
      · have HC : Hid (V = -1) := by
          have := HE.out
          rw [hd, drop_at m 0 k (by rw [HM.out]; exact hlt2), cmpL] at this
          exact this.symm
        clear hd
        go_wp2
        go_ret
        exact ⟨by rw [HC.out]; rfl, rfl⟩
      · have HC : Hid (V = 0) := by
          have := HE.out
          rw [hd, show m.drop k = [] by rw [List.drop_eq_nil_iff, HM.out]; omega, cmpL] at this
          exact this.symm
        clear hd
        go_wp2
        go_ret
        exact ⟨by rw [HC.out]; rfl, rfl⟩

theorem cmpI_lt {a b : Int} (h : a < b) : cmpI a b = -1 := if_pos h
theorem cmpI_gt {a b : Int} (h : b < a) : cmpI a b = 1 := by rw [cmpI, if_neg (by omega), if_pos h]
theorem cmpI_eq {a b : Int} (h : a = b) : cmpI a b = 0 := by rw [cmpI, if_neg (by omega), if_neg (by omega)]

theorem cmpL_lex : ∀ (a b : List Nat), a.length = b.length → (decide (cmpL (a.map fun (i : Nat) => (i : Int)) (b.map fun (i : Nat) => (i : Int)) < 0)) = lexB a b
  | [], [], _ => rfl
  | [], _ :: _, h => by simp at h
  | _ :: _, [], h => by simp at h
  | x :: l, y :: m, h => by
    rw [List.map_cons, List.map_cons, cmpL, lexB, ← cmpL_lex l m (by simpa using h)]
    rcases Nat.lt_trichotomy x y with h1 | h1 | h1
    · rw [cmpI_lt (by omega), if_neg (by omega)]
      simp [h1]
    · rw [cmpI_eq (by omega), if_pos rfl]
      simp [h1]
    · rw [cmpI_gt (by omega), if_neg (by omega)]
      have h2 : ¬ x < y := by omega
      have h3 : x ≠ y := by omega
      simp [h2, h3]
/-- fewer, or as many and ahead, as the code finds it -/
theorem better_eq (a b : List Nat) : (decide (orI (cmpI (a.length : Int) (b.length : Int)) (cmpL (a.map fun (i : Nat) => (i : Int)) (b.map fun (i : Nat) => (i : Int))) < 0)) = ltB a b := by
  unfold ltB orI
  rcases Nat.lt_trichotomy a.length b.length with h1 | h1 | h1
  · rw [cmpI_lt (by omega), if_neg (by omega)]
    simp [h1]
  · rw [cmpI_eq (by omega), if_pos rfl, cmpL_lex a b h1]
    simp [h1]
  · rw [cmpI_gt (by omega), if_neg (by omega)]
    have h2 : ¬ a.length < b.length := by omega
    have h3 : a.length ≠ b.length := by omega
    simp [h2, h3]
end Go.Proofs.YtmcjnfghlpnghaaDoor

namespace Go.Proofs.YtmcjnfghlpnghaaDoor
open Go.RowKit

/-- the error of a rescue with depots -/
def wpErr (L : Int) (l : List Dep) (ds : List Int) : Int := if rescueM L l = 0 then depsE l.length ds else rescueM L l

def DepsRel2 (w0 : World) (n m : Nat) (ds : List Int) (E : Int) (u7 u25 : Value) (wr : World) : Prop :=
  ∃ (k : Nat) (last : Int), k ≤ m ∧ u25 = .int .i64 k ∧ u7 = .int .i64 last ∧ depsGo n last (ds.drop k) = E ∧ Below w0.heap.size w0 wr

theorem firstE_hd {a : Int} {l : List Int} (h : a ≠ 0) : firstE (a :: l) = a := by rw [firstE, if_neg h]
theorem firstE_z0 {l : List Int} : firstE (0 :: l) = firstE l := by rw [firstE, if_pos rfl]

theorem set_same (w : World) (b : Nat) (x y : Value) (t : Nat) (p q : Value) (h : w.heap[b]? = some (.cells #[p, q] t (0, 0))) :
    ((w.setCell ⟨b, 0, none⟩ x).setCell ⟨b, 1, none⟩ y).heap[b]? = some (.cells #[x, y] t (0, 0)) := by
  rw [heapq_set, if_pos rfl, heapq_set, if_pos rfl, h]
  simp [objSet_cells]

set_option maxRecDepth 100000 in
set_option maxHeartbeats 8000000 in
theorem WorstPlace_bad (w : World) (B : Nat) (L : Int) (A D : Option Addr) (n c m e : Nat) (l : List Dep) (ds : List Int) (hl : l.length = n) (hm : ds.length = m) (h : Rd w B A (depCells l)) (hd : Rd w B D (intCells ds)) (hB : B ≤ w.heap.size) (hn : n ≤ 1000000) (hm1 : m ≤ 1000000)
    (E : Int) (hE : wpErr L l ds = E) (h0 : E ≠ 0) :
    Calls Tryd.prog 68 #[.agg #[.int .i64 L, .slice A n c], .slice D m e] w (WPPost w (0, 0) E) := by
  have hb0 : Below w.heap.size w ((w.alloc (.cells #[.int .i64 L, .slice A n c] 107)).alloc (.cells #[.int .i64 0, .int .i64 0] 108)) :=
    ((Below.refl _ _).alloc (Nat.le_refl _) _).alloc (by simp) _
  have k0 : ((w.alloc (.cells #[.int .i64 L, .slice A n c] 107)).alloc (.cells #[.int .i64 0, .int .i64 0] 108)).heap[w.heap.size]? = some (.cells #[.int .i64 L, .slice A n c] 107 (0, 0)) := by
    rw [heapq_alloc, if_neg (by simp), heapq_alloc, if_pos rfl]
  have k1 : ((w.alloc (.cells #[.int .i64 L, .slice A n c] 107)).alloc (.cells #[.int .i64 0, .int .i64 0] 108)).heap[w.heap.size + 1]? = some (.cells #[.int .i64 0, .int .i64 0] 108 (0, 0)) := by
    rw [heapq_alloc, if_pos (by simp)]
  have hsz : ((w.alloc (.cells #[.int .i64 L, .slice A n c] 107)).alloc (.cells #[.int .i64 0, .int .i64 0] 108)).heap.size = w.heap.size + 2 := by simp
  have HL := Lib.hid hl
  have HM := Lib.hid hm
  have HE := Lib.hid hE
  have h1 := h.below (hb0.mono hB)
  have hd1 := hd.below (hb0.mono hB)
  have R := rescueErr_any ((w.alloc (.cells #[.int .i64 L, .slice A n c] 107)).alloc (.cells #[.int .i64 0, .int .i64 0] 108)) B L A n c l hl h1 (by omega) (by omega)
  unfold ErrVal at R
  obtain ⟨er, her⟩ : ∃ er, rescueM L l = er := ⟨_, rfl⟩
  rw [her] at R
  have HER := Lib.hid her
  have HD1 := Lib.hid hd1
  have HB0 := Lib.hid hb0
  have HSZ := Lib.hid hsz
  obtain ⟨bm, hbm⟩ : ∃ b, decide (0 < m) = b := ⟨_, rfl⟩
  have HBM := Lib.hid hbm
  have U := fun (b : Bool) (W : World) => unless_any b 10 W
  have F2 := fun (W : World) (a b : Int) => first2 W a b
  clear hl hm h hd h1 hd1 hb0 hsz her hE
  go_enter Tryd.func68, Tryd.ntmps68
  go_upto_region 1 with (fail)
  generalize (w.alloc (.cells #[.int .i64 L, .slice A n c] 107)).alloc (.cells #[.int .i64 0, .int .i64 0] 108) = w0 at *
  have a0 := cell_of_row w0 w.heap.size 0 _ _ _ k0
  have a1 := cell_of_row w0 w.heap.size 1 _ _ _ k0
  simp at a0 a1
  generalize hx : w.heap.size = x at *
  have HX := Lib.hid hx
  have K1 := Lib.hid k1
  clear hx k0 k1
  go_upto_region 2 with (first | (go_at_call 124; refine R.mono ?_; rintro e1 w1 ⟨rfl, hb1⟩; have a0' := kept hb1 a0; have a1' := kept hb1 a1) | (go_at_call 92; refine (U _ _).mono ?_; rintro e2 w' ⟨rfl, rfl⟩) | (go_at_call 91; refine (F2 _ _ _).mono ?_; rintro e3 w' ⟨rfl, rfl⟩))
  have hbw2 : Below w0.heap.size w0 (w1.alloc (.cells #[.int .i64 er, .int .i64 (unlessE bm 10)] 29)) := hb1.alloc hb1.size _
  have c1 := cell_alloc_old (.cells #[.int .i64 er, .int .i64 (unlessE bm 10)] 29) a1'
  have hd2 := HD1.out.below (hbw2.mono (by have := HSZ.out; omega))
  have k12 : (w1.alloc (.cells #[.int .i64 er, .int .i64 (unlessE bm 10)] 29)).heap[x + 1]? = some (.cells #[.int .i64 0, .int .i64 0] 108 (0, 0)) := by
    rw [hbw2.block (x + 1) (by have := HSZ.out; omega)]
    exact K1.out
  have hsz2 : x + 2 ≤ (w1.alloc (.cells #[.int .i64 er, .int .i64 (unlessE bm 10)] 29)).heap.size := by have h1 := hbw2.size; have := HSZ.out; omega
  have hbx2 : Below x w (w1.alloc (.cells #[.int .i64 er, .int .i64 (unlessE bm 10)] 29)) := HB0.out.trans (hbw2.mono (by have := HSZ.out; omega))
  have HD2 := Lib.hid hd2
  have K12 := Lib.hid k12
  have HBX2 := Lib.hid hbx2
  clear a0 a1 a0' a1' hb1 hbw2 hd2 k12 hbx2 R U hbm
  generalize (w1.alloc (.cells #[.int .i64 er, .int .i64 (unlessE bm 10)] 29)) = w2 at *
  -- what is stored where the walk ends with an error
  have FIN : ∀ wr : World, Below w2.heap.size w2 wr → ∃ kz : wr.heap[x + 1]? = some (.cells #[.int .i64 0, .int .i64 0] 108 (0, 0)), Below x w ((wr.setCell ⟨x + 1, 0, none⟩ (.int .i64 0)).setCell ⟨x + 1, 1, none⟩ (.int .i64 0)) := by
    intro wr hb
    refine ⟨by rw [hb.block (x + 1) (by omega)]; exact K12.out, ((HBX2.out.trans (hb.mono (by omega))).setCell (by simp only; omega) _).setCell (by simp only; omega) _⟩
  have DONE : ∀ wr : World, Below w2.heap.size w2 wr → wr.cell? ⟨x + 1, 0, none⟩ = some (.int .i64 0) ∧ wr.frozen? ⟨x + 1, 0, none⟩ = false ∧
      (wr.setCell ⟨x + 1, 0, none⟩ (.int .i64 0)).cell? ⟨x + 1, 1, none⟩ = some (.int .i64 0) ∧ (wr.setCell ⟨x + 1, 0, none⟩ (.int .i64 0)).frozen? ⟨x + 1, 1, none⟩ = false ∧
      ((wr.setCell ⟨x + 1, 0, none⟩ (.int .i64 0)).setCell ⟨x + 1, 1, none⟩ (.int .i64 0)).cell? ⟨x + 1, 0, none⟩ = some (.int .i64 0) ∧
      ((wr.setCell ⟨x + 1, 0, none⟩ (.int .i64 0)).setCell ⟨x + 1, 1, none⟩ (.int .i64 0)).cell? ⟨x + 1, 1, none⟩ = some (.int .i64 0) := by
    intro wr hb
    obtain ⟨kz, _⟩ := FIN wr hb
    have ks : (wr.setCell ⟨x + 1, 0, none⟩ (.int .i64 0)).heap[x + 1]? = some (.cells #[.int .i64 0, .int .i64 0] 108 (0, 0)) := by
      rw [heapq_set, if_pos rfl, kz]
      simp [objSet_cells]
    have kf := set_same wr (x + 1) (.int .i64 0) (.int .i64 0) 108 _ _ kz
    exact ⟨(cell_of_row _ _ 0 _ _ _ kz).trans rfl, frozen_of_row _ _ 0 _ _ kz, (cell_of_row _ _ 1 _ _ _ ks).trans rfl, frozen_of_row _ _ 1 _ _ ks, (cell_of_row _ _ 0 _ _ _ kf).trans rfl, (cell_of_row _ _ 1 _ _ _ kf).trans rfl⟩
  obtain ⟨E1, hE1⟩ : ∃ E1, firstE [er, unlessE bm 10] = E1 := ⟨_, rfl⟩
  rw [hE1]
  by_cases h1 : E1 = 0
  · have e1 : (E1 != 0) = false := by rw [h1]; rfl
    rw [h1] at hE1
    obtain ⟨g1, g2⟩ := firstE2_zero hE1
    have hm0 : 0 < m := by
      have := (unlessE_zero (by omega)).1 g2
      rw [← HBM.out] at this
      simpa using this
    have HGO : Hid (depsGo n (-1) ds = E) := by
      rw [Hid, ← HE.out, wpErr, HER.out, if_pos g1, depsE, if_neg (by rw [HM.out]; omega), HL.out]
    clear h1 hE1 g1 g2 HE
    go_wp2
    go_loopw [7, 25] (fun u7 u25 wr => DepsRel2 w2 n m ds E u7 u25 wr) (fun _ u25 _ => m - (intOf u25).toNat)
    case atStart => exact ⟨0, -1, Nat.zero_le _, rfl, rfl, by rw [List.drop_zero]; exact HGO.out, Below.refl _ _⟩
    case round =>
      obtain ⟨k, last, hk, rfl, rfl, he, hb⟩ := hrel
      have c1r := kept hb c1
      have HEK := Lib.hid he
      have HB := Lib.hid hb
      have hszr := hb.size
      clear he
      by_cases hlt : k < m
      · have hkd : k < ds.length := by rw [HM.out]; exact hlt
        obtain ⟨bd, offd, rfl, _, e0⟩ := (HD2.out.below (hb.mono (by omega))).at_ (intCells_at ds k hkd)
        have HS := Lib.hid (drop_at ds 0 k hkd)
        generalize ds[k]?.getD 0 = d at *
        have W9 := fun W => within_any d 0 ((n : Int) - 1) W
        have U := fun (b : Bool) (e : Int) (W : World) => unless_any b e W
        have hbX : Below wr.heap.size wr (wr.alloc (.cells #[.int .i64 (unlessE (withinB d 0 ((n : Int) - 1)) 6), .int .i64 (unlessE (decide (last < d)) 9)] 29)) := (Below.refl _ _).alloc (Nat.le_refl _) _
        have HBX := Lib.hid (HB.out.trans (hbX.mono hszr))
        have hWF : IntKind.i64.wrap ((n : Int) - 1) = (n : Int) - 1 := IntWalk.i64_in _ (by omega)
        clear hbX hb hkd c1
        go_upto_region 9 with (first | (go_at_call 99; refine (W9 _).mono ?_; rintro e1 w' ⟨rfl, rfl⟩) | (go_at_call 92; refine (U _ _ _).mono ?_; rintro e2 w' ⟨rfl, rfl⟩) | (go_at_call 91; refine (F2 _ _ _).mono ?_; rintro e3 w' ⟨rfl, rfl⟩))
        obtain ⟨E2, hE2⟩ : ∃ E2, dE n d last = E2 := ⟨_, rfl⟩
        have e2 : firstE [unlessE (withinB d 0 ((n : Int) - 1)) 6, unlessE (decide (last < d)) 9] = E2 := hE2
        rw [e2]
        have HE2 := Lib.hid hE2
        clear hE2 e2 W9 U e0 c1r
        generalize wr.alloc (.cells #[.int .i64 (unlessE (withinB d 0 ((n : Int) - 1)) 6), .int .i64 (unlessE (decide (last < d)) 9)] 29) = w4 at *
        by_cases he0 : E2 = 0
        · have e3 : (E2 != 0) = false := by rw [he0]; rfl
          have HG : Hid (depsGo n d (ds.drop (k + 1)) = E) := by
            have := HEK.out
            rw [HS.out, depsGo_eq, HE2.out, if_pos he0] at this
            exact this
          clear he0
          go_wp2
          go_roundw
          case rel => exact ⟨k + 1, d, by omega, by go_num, rfl, HG.out, HBX.out⟩
          case measure => simp [intOf]; omega
        · have e3 : (E2 != 0) = true := bne_iff_ne.2 he0
          have HG : Hid (E2 = E) := by
            have := HEK.out
            rw [HS.out, depsGo_eq, HE2.out, if_neg he0] at this
            exact this
          obtain ⟨q0, q1, q2, q3, q4, q5⟩ := DONE w4 HBX.out
          obtain ⟨_, q6⟩ := FIN w4 HBX.out
          have Q6 := Lib.hid q6
          clear he0 q6 FIN DONE
          go_wp2
          refine bodyPost_ret (v := .tuple #[.agg #[.int .i64 0, .int .i64 0], .int .i64 E2]) (by simp [results, Tryd.results68, go_sem, q4, q5]) rfl ⟨by rw [HG.out], by rw [HX.out]; exact Q6.out⟩
      · exfalso
        have hd : ds.drop k = [] := by rw [List.drop_eq_nil_iff, HM.out]; omega
        have := HEK.out
        rw [hd] at this
        exact h0 this.symm
  · have e1 : (E1 != 0) = true := bne_iff_ne.2 h1
    have HG : Hid (E1 = E) := by
      rw [Hid, ← HE.out, ← hE1, wpErr, HER.out]
      by_cases hz : er = 0
      · rw [if_pos hz, hz, firstE_z0]
        have hbf : bm = false := by
          cases hb : bm with
          | false => rfl
          | true => rw [hz, hb] at hE1; exact absurd hE1.symm h1
        have hm0 : ds.length = 0 := by
          have h3 := HBM.out
          rw [hbf] at h3
          have h4 := of_decide_eq_false h3
          rw [HM.out]
          omega
        rw [depsE, if_pos hm0, hbf]
        rfl
      · rw [if_neg hz, firstE_hd hz]
    obtain ⟨q0, q1, q2, q3, q4, q5⟩ := DONE w2 (Below.refl _ _)
    obtain ⟨_, q6⟩ := FIN w2 (Below.refl _ _)
    have Q6 := Lib.hid q6
    clear h1 hE1 q6 FIN DONE
    go_wp2
    refine bodyPost_ret (v := .tuple #[.agg #[.int .i64 0, .int .i64 0], .int .i64 E1]) (by simp [results, Tryd.results68, go_sem, q4, q5]) rfl ⟨by rw [HG.out], by rw [HX.out]; exact Q6.out⟩
end Go.Proofs.YtmcjnfghlpnghaaDoor

namespace Go.Proofs.YtmcjnfghlpnghaaDoor
open Go.RowKit

/-- a set of depots by its bits -/
def bitSet (n s : Nat) : List Nat := (List.range n).filter fun i => s / 2 ^ i % 2 == 1
theorem careSets_drop {n s : Nat} (h : s + 1 < 2 ^ n) : (careSets n).drop s = bitSet n (s + 1) :: (careSets n).drop (s + 1) := by
  have hl : s < (careSets n).length := by
    simp only [careSets, List.length_map, List.length_range]
    omega
  rw [List.drop_eq_getElem_cons hl]
  congr 1
  simp [careSets, bitSet]
def okDep (l : List Dep) (L most : Int) (ds : List Nat) : Bool := decide ((worstM l L ds).2 ≤ 2 * most)
/-- the best set so far, as a value -/
def BestAt (w : World) : Option (List Nat) → Value → Prop
  | none, v => v = .slice none 0 0
  | some T, v => ∃ b cap, v = .slice (some ⟨b, 0, none⟩) T.length cap ∧ Rd w w.heap.size (some ⟨b, 0, none⟩) (natCells T)
theorem BestAt.below {w w' : World} {o : Option (List Nat)} {v : Value} (h : BestAt w o v) (hb : Below w.heap.size w w') : BestAt w' o v := by
  cases o with
  | none => exact h
  | some T =>
    obtain ⟨b, cap, h1, h2⟩ := h
    exact ⟨b, cap, h1, (h2.below hb).mono hb.size⟩
def bestLen : Option (List Nat) → Nat
  | none => 0
  | some T => T.length
def errOf : Option (List Nat) → Int
  | none => 12
  | some _ => 0
def FewPost (w : World) (o : Option (List Nat)) (e : Int) (x : Ending) (w' : World) : Prop :=
  ∃ v, x = .returned (.tuple #[v, .int .i64 e]) ∧ BestAt w' o v ∧ Below w.heap.size w w'

def FewRel (w0 : World) (l : List Dep) (L most : Int) (n P : Nat) (R : Option (List Nat)) (u7 u8 : Value) (wr : World) : Prop :=
  ∃ (s : Nat) (b : Option (List Nat)), s < P ∧ u8 = .int .i64 ((s : Int) + 1) ∧ BestAt wr b u7 ∧ (∀ T, b = some T → T.length ≤ n) ∧ bestGo (okDep l L most) b ((careSets n).drop s) = R ∧ Below w0.heap.size w0 wr
def BitRel (wq : World) (n s : Nat) (u9 u32 : Value) (wr : World) : Prop :=
  ∃ k : Nat, k ≤ n ∧ u32 = .int .i64 k ∧ wr.ownsRow wq.heap.size 3 1 u9 (bitSet k s).length (natCells (bitSet k s)) ∧ Below wq.heap.size wq wr
theorem bitSet_yes {k s : Nat} (h : s / 2 ^ k % 2 = 1) : bitSet (k + 1) s = bitSet k s ++ [k] := by
  simp [bitSet, List.range_succ, List.filter_append, h]
theorem bitSet_no {k s : Nat} (h : s / 2 ^ k % 2 ≠ 1) : bitSet (k + 1) s = bitSet k s := by
  simp [bitSet, List.range_succ, List.filter_append, h]
theorem bitSet_len (k s : Nat) : (bitSet k s).length ≤ k := by
  unfold bitSet
  exact Nat.le_trans (List.length_filter_le _ _) (by simp)
theorem bitSet_in {k s : Nat} : ∀ i ∈ bitSet k s, i < k := by
  intro i hi
  simp only [bitSet, List.mem_filter, List.mem_range] at hi
  exact hi.1

set_option maxRecDepth 100000 in
set_option maxHeartbeats 8000000 in
theorem FewestDepots_bad (w : World) (B : Nat) (L most : Int) (A : Option Addr) (n c : Nat) (l : List Dep) (hl : l.length = n) (h : Rd w B A (depCells l)) (hB : B ≤ w.heap.size) (hn : n ≤ 1000000)
    (E : Int) (hE : firstE [rescueM L l, placeE most] = E) (h0 : E ≠ 0) :
    Calls Tryd.prog 70 #[.agg #[.int .i64 L, .slice A n c], .int .i64 most] w fun x w' => x = .returned (.tuple #[.slice none 0 0, .int .i64 E]) ∧ Below w.heap.size w w' := by
  have hb0 : Below w.heap.size w (w.alloc (.cells #[.int .i64 L, .slice A n c] 107)) := (Below.refl _ _).alloc (Nat.le_refl _) _
  have k0 : (w.alloc (.cells #[.int .i64 L, .slice A n c] 107)).heap[w.heap.size]? = some (.cells #[.int .i64 L, .slice A n c] 107 (0, 0)) := by rw [heapq_alloc, if_pos rfl]
  have c0 : (w.alloc (.cells #[.int .i64 L, .slice A n c] 107)).cell? ⟨w.heap.size, 0, none⟩ = some (.int .i64 L) := (cell_of_row _ _ 0 _ _ _ k0).trans rfl
  have c1 : (w.alloc (.cells #[.int .i64 L, .slice A n c] 107)).cell? ⟨w.heap.size, 1, none⟩ = some (.slice A n c) := (cell_of_row _ _ 1 _ _ _ k0).trans rfl
  have R := rescueErr_any (w.alloc (.cells #[.int .i64 L, .slice A n c] 107)) B L A n c l hl (h.below (hb0.mono hB)) (Nat.le_trans hB hb0.size) (by omega)
  unfold ErrVal at R
  generalize rescueM L l = er at *
  have PE := fun W => placeErr_any most W
  generalize placeE most = ep at *
  have F2 := fun (W : World) => first2 W er ep
  rw [hE] at F2
  have e1 : (E != 0) = true := bne_iff_ne.2 h0
  have HB := Lib.hid hb0
  have hs0 := hb0.size
  clear h hl hb0 k0 h0 hE
  go_enter Tryd.func70, Tryd.ntmps70
  go_upto_region 1 with (fail)
  generalize w.alloc (.cells #[.int .i64 L, .slice A n c] 107) = w0 at *
  go_upto_region 2 with (first | (go_at_call 124; refine R.mono ?_; rintro e1 w1 ⟨rfl, hb1⟩) | (go_at_call 126; refine (PE _).mono ?_; rintro e2 w' ⟨rfl, rfl⟩) | (go_at_call 91; refine (F2 _).mono ?_; rintro e3 w' ⟨rfl, rfl⟩))
  have HBX := Lib.hid (HB.out.trans ((hb1.alloc hb1.size (.cells #[.int .i64 er, .int .i64 ep] 29)).mono hs0))
  generalize w1.alloc (.cells #[.int .i64 er, .int .i64 ep] 29) = w2 at *
  clear hb1 c0 c1
  go_wp2
  go_ret2
  exact ⟨rfl, HBX.out⟩

theorem run_eql_nil (W : World) : Sem.run Tryd.prog (binOp BinOp.eql 39 (.slice none 0 0) (.slice none 0 0)) W = .ok (.bool true) W := by kernel_rfl
theorem run_eql_row (g n c : Nat) (W : World) : Sem.run Tryd.prog (binOp BinOp.eql 39 (.slice (some ⟨g, 0, none⟩) n c) (.slice none 0 0)) W = .ok (.bool false) W := by kernel_rfl
theorem run_neq_nil (W : World) : Sem.run Tryd.prog (binOp BinOp.neq 39 (.slice none 0 0) (.slice none 0 0)) W = .ok (.bool false) W := by kernel_rfl
theorem run_neq_row (g n c : Nat) (W : World) : Sem.run Tryd.prog (binOp BinOp.neq 39 (.slice (some ⟨g, 0, none⟩) n c) (.slice none 0 0)) W = .ok (.bool true) W := by kernel_rfl
theorem best_nil (ok : List Nat → Bool) (b : Option (List Nat)) : bestGo ok b [] = b := by cases b <;> rfl

theorem run_index1 (a b : Int) (W : World) : Sem.run Tryd.prog (Instr.index 108 (.agg #[.int .i64 a, .int .i64 b]) (.int .i64 1)) W = .ok (.int .i64 b) W := by kernel_rfl

theorem and_one : ∀ q : Fin 64, bits .and .i64 ((q.val : Nat) : Int) 1 = ((q.val % 2 : Nat) : Int) := by decide +kernel
theorem bit_of {s k : Nat} (hs : s + 1 < 64) : bits .and .i64 (((s : Int) + 1) / 2 ^ k) 1 = (((s + 1) / 2 ^ k % 2 : Nat) : Int) := by
  have h1 : (((s : Int) + 1) / 2 ^ k) = (((s + 1) / 2 ^ k : Nat) : Int) := by simp
  rw [h1]
  exact and_one ⟨(s + 1) / 2 ^ k, Nat.lt_of_le_of_lt (Nat.div_le_self _ _) hs⟩

theorem pow_few {n : Nat} (h : n ≤ 5) : 2 ^ n ≤ 32 := Nat.pow_le_pow_right (by omega) h

set_option maxRecDepth 100000 in
set_option maxHeartbeats 16000000 in
theorem FewestDepots_yes (w : World) (B : Nat) (L most : Int) (A : Option Addr) (n c : Nat) (l : List Dep) (hl : l.length = n) (h : Rd w B A (depCells l)) (hB : B ≤ w.heap.size) (hn : n ≤ 5)
    (h0 : rescueM L l = 0) (hp : placeE most = 0) (R : Option (List Nat)) (hR : bestGo (okDep l L most) none (careSets n) = R) :
    Calls Tryd.prog 70 #[.agg #[.int .i64 L, .slice A n c], .int .i64 most] w (FewPost w R (errOf R)) := by
  obtain ⟨⟨hL0, hL1⟩, hn0, _, hok⟩ := rescueM_ok h0
  rw [hl] at hn0
  obtain ⟨hmost0, hmost1⟩ := placeE_zero hp
  obtain ⟨i1, hi1, hy0, hy1, hy2⟩ := info_parts info3
  have hb0 : Below w.heap.size w (w.alloc (.cells #[.int .i64 L, .slice A n c] 107)) := (Below.refl _ _).alloc (Nat.le_refl _) _
  have k0 : (w.alloc (.cells #[.int .i64 L, .slice A n c] 107)).heap[w.heap.size]? = some (.cells #[.int .i64 L, .slice A n c] 107 (0, 0)) := by rw [heapq_alloc, if_pos rfl]
  have c0 : (w.alloc (.cells #[.int .i64 L, .slice A n c] 107)).cell? ⟨w.heap.size, 0, none⟩ = some (.int .i64 L) := (cell_of_row _ _ 0 _ _ _ k0).trans rfl
  have c1 : (w.alloc (.cells #[.int .i64 L, .slice A n c] 107)).cell? ⟨w.heap.size, 1, none⟩ = some (.slice A n c) := (cell_of_row _ _ 1 _ _ _ k0).trans rfl
  have hr0 := h.below (hb0.mono hB)
  have RE := rescueErr_any (w.alloc (.cells #[.int .i64 L, .slice A n c] 107)) B L A n c l hl hr0 (Nat.le_trans hB hb0.size) (by omega)
  unfold ErrVal at RE
  rw [h0] at RE
  have PE := fun W => placeErr_any most W
  rw [hp] at PE
  have HL := Lib.hid hl
  have HOK := Lib.hid hok
  have HB := Lib.hid hb0
  have HR := Lib.hid hR
  have hs0 := hb0.size
  have hB0 := Nat.le_trans hB hs0
  clear h hl hb0 k0 h0 hp hok hR
  go_enter Tryd.func70, Tryd.ntmps70
  go_upto_region 1 with (fail)
  generalize w.alloc (.cells #[.int .i64 L, .slice A n c] 107) = w0 at *
  go_upto_region 2 with (first | (go_at_call 124; refine RE.mono ?_; rintro e1 w1 ⟨rfl, hb1⟩) | (go_at_call 126; refine (PE _).mono ?_; rintro e2 w' ⟨rfl, rfl⟩) | (go_at_call 91; refine (first00 _).mono ?_; rintro e3 w' ⟨rfl, rfl⟩))
  have hbx : Below w0.heap.size w0 (w1.alloc (.cells #[.int .i64 0, .int .i64 0] 29)) := hb1.alloc hb1.size _
  replace c0 := kept hbx c0
  replace c1 := kept hbx c1
  replace hr0 := hr0.below (hbx.mono hB0)
  replace HB := Lib.hid (HB.out.trans (hbx.mono hs0))
  replace hB0 := Nat.le_trans hB0 hbx.size
  replace hs0 := Nat.le_trans hs0 hbx.size
  clear hbx hb1 RE PE
  generalize w1.alloc (.cells #[.int .i64 0, .int .i64 0] 29) = w2 at *
  have C0 := Lib.hid c0
  have C1 := Lib.hid c1
  have hpow : 2 ^ n ≤ 32 := pow_few hn
  have hpow1 : 2 ≤ 2 ^ n := Nat.le_trans (by decide) (Nat.pow_le_pow_right (by omega) hn0)
  have hlenc : (careSets n).length = 2 ^ n - 1 := by simp [careSets]
  have hdropc : ∀ s, s + 1 < 2 ^ n → (careSets n).drop s = bitSet n (s + 1) :: (careSets n).drop (s + 1) := fun s h => careSets_drop h
  have hwp : wrap64 (2 ^ n) = ((2 ^ n : Nat) : Int) := by
    rcases (by omega : n = 1 ∨ n = 2 ∨ n = 3 ∨ n = 4 ∨ n = 5) with rfl | rfl | rfl | rfl | rfl <;> simp [wrap64]
  generalize 2 ^ n = P at hpow hpow1 hlenc hdropc hwp
  have HLC := Lib.hid hlenc
  have HDC := Lib.hid hdropc
  have HWP := Lib.hid hwp
  clear hlenc hdropc hwp
  go_wp2
  go_loopw [7, 8] (fun u7 u8 wr => FewRel w2 l L most n P R u7 u8 wr) (fun _ u8 _ => P - (intOf u8).toNat)
  case atStart => exact ⟨0, none, by omega, rfl, rfl, fun T h => by simp at h, by rw [List.drop_zero]; exact HR.out, Below.refl _ _⟩
  case round =>
    clear c0 c1
    obtain ⟨s, b, hs, rfl, hbest, hbl, he, hb⟩ := hrel
    have HE := Lib.hid he
    have HBE := Lib.hid hbest
    have HBL := Lib.hid hbl
    have HBK := Lib.hid hb
    have c0 := kept hb C0.out
    have c1 := kept hb C1.out
    have hr := hr0.below (hb.mono hB0)
    have hsz := hb.size
    clear hb hbest hbl he
    by_cases hlt : s + 1 < P
    · have HD := Lib.hid (HDC.out s hlt)
      obtain ⟨T, hT⟩ : ∃ T, T = bitSet n (s + 1) := ⟨_, rfl⟩
      have HT := Lib.hid hT
      have hTn : T.length ≤ n := by rw [hT]; exact bitSet_len n (s + 1)
      have hTi : ∀ i ∈ T, i < n := by rw [hT]; exact bitSet_in
      have HTI := Lib.hid hTi
      clear hT hTi
      have hT0 : T ≠ [] := by
        have hmem : T ∈ careSets n := List.mem_of_mem_drop (i := s) (by rw [HD.out, ← HT.out]; simp)
        exact (set_deps ((sets_same n (by omega)).2.1 T hmem)).1
      have HD2 : Hid ((careSets n).drop s = T :: (careSets n).drop (s + 1)) := by rw [Hid, HT.out]; exact HD.out
      clear HD
      obtain ⟨wo, hwo⟩ : ∃ wo, wo = wr := ⟨_, rfl⟩
      subst hwo
      have hcond : decide ((s : Int) + 1 < wrap64 (2 ^ n)) = true := by rw [HWP.out]; exact decide_eq_true (by omega)
      go_upto_region 8 with fail
      clear hcond
      go_wp2
      go_loopw [9, 32] (fun u9 u32 wq => BitRel wo n (s + 1) u9 u32 wq) (fun _ u32 _ => n - (intOf u32).toNat)
      case atStart => exact ⟨0, Nat.zero_le _, rfl, ⟨rfl, .inl ⟨rfl, rfl⟩⟩, Below.refl _ _⟩
      case round =>
        obtain ⟨k, hk, rfl, hown, hbq⟩ := hrel
        obtain ⟨Au, cu, rfl⟩ := rowForm hown
        have HOWN := Lib.hid hown
        have HBQ := Lib.hid hbq
        have hszq := hbq.size
        clear hown hbq
        by_cases hkn : k < n
        · have hbit := bit_of (k := k) (show s + 1 < 64 by omega)
          by_cases h1 : (s + 1) / 2 ^ k % 2 = 1
          · rw [h1] at hbit
            have HBY := Lib.hid (bitSet_yes h1)
            clear h1
            go_wp2_with (at_builtin; refine stp ?_)
            unfold Stp
            have hbl5 := bitSet_len k (s + 1)
            refine wpList_append_lies _ rfl _ _ 39 rfl wo.heap.size 3 i1 _ 1 8 Tryd.underlying39 hi1 hy0 hy1 hy2 rfl (by omega) (.slice Au (bitSet k (s + 1)).length cu) (bitSet k (s + 1)).length (natCells (bitSet k (s + 1))) rfl (HOWN.out.alloc _) ⟨wr.heap.size, 0, none⟩ 1 1 [.int .i64 (k : Int)] rfl rfl (news1 (by simp)) (by simp [Value.oneCell']) (by omega) (by simp only [maxLen]; omega) (by omega) (by simp; omega) _ rfl ?_
            intro gg cap w3 hown1 hgrow hat hlt9
            have hb9 : Below wo.heap.size wo w3 := (HBQ.out.alloc hszq _).grown hgrow (by simp; omega) (fun k hk => (ownBlk HOWN.out hk).1)
            have HOWN1 := Lib.hid hown1
            have HB9 := Lib.hid hb9
            clear hown1 hgrow hat hlt9 hb9 hbit
            go_wp2
            go_roundw
            case rel => exact ⟨k + 1, by omega, by go_num, (by rw [HBY.out]; simpa [natCells] using HOWN1.out), HB9.out⟩
            case measure => simp [intOf]; omega
          · have h0 : (s + 1) / 2 ^ k % 2 = 0 := by omega
            rw [h0] at hbit
            have HBN := Lib.hid (bitSet_no h1)
            clear h1 h0
            go_wp2
            go_roundw
            case rel => exact ⟨k + 1, by omega, by go_num, by rw [HBN.out]; exact HOWN.out, HBQ.out⟩
            case measure => simp [intOf]; omega
        · have hkn2 : k = n := by omega
          have hTe : bitSet k (s + 1) = T := by rw [HT.out, hkn2]
          have hown2 := HOWN.out
          rw [hTe] at hown2
          have HOWN2 := Lib.hid hown2
          obtain ⟨gT, hgT⟩ : ∃ g, Au = some ⟨g, 0, none⟩ := by
            obtain ⟨g, cap, he, _⟩ := hown2.form (List.length_pos_iff.2 hT0)
            simp only [Value.slice.injEq] at he
            exact ⟨g, he.1⟩
          subst hgT
          have hcw := kept HBQ.out c0
          have hcw1 := kept HBQ.out c1
          have hrw := hr.below (HBQ.out.mono (Nat.le_trans hB0 hsz))
          have RT := Lib.hid (rd_own hown2)
          have BW := Lib.hid (HBE.out.below HBQ.out)
          have HBW := Lib.hid (HBK.out.trans (HBQ.out.mono hsz))
          have hszw := Nat.le_trans hsz hszq
          clear hown2 c0 c1 hr HBE HBQ HBK HOWN HOWN2
          rw [hTe]
          clear hTe
          obtain ⟨⟨o1, o2⟩, hom⟩ : ∃ om, worstM l L T = om := ⟨_, rfl⟩
          have HOM := Lib.hid hom
          have CW := fun (W : World) (B1 : Nat) (h1 : Rd W B1 A (depCells l)) (h2 : Rd W B1 (some ⟨gT, 0, none⟩) (natCells T)) (h3 : B1 ≤ W.heap.size) => worst_any W B1 L A (some ⟨gT, 0, none⟩) n c T.length cu l T HL.out rfl h1 h2 h3 ⟨hL0, hL1⟩ (fun d hd => (HOK.out d hd).1) HTI.out (by omega) (by omega)
          simp only [hom] at CW
          have HOK2 : Hid (okDep l L most T = decide (o2 ≤ 2 * most)) := by rw [Hid, okDep, hom]
          clear hom
          cases b with
          | none =>
            have hu7 : u7 = .slice none 0 0 := BW.out
            subst hu7
            have CW1 := CW wr wr.heap.size (hrw.mono (Nat.le_trans hB0 hszw)) RT.out (Nat.le_refl _)
            have HEN : Hid (bestGo (okDep l L most) (if okDep l L most T = true then some T else none) ((careSets n).drop (s + 1)) = R) := by
              have := HE.out
              rw [HD2.out, bestGo] at this
              exact this
            have HX : Hid (Below wr.heap.size wr wr) := Below.refl _ _
            have qn := run_eql_nil
            clear CW
            go_upto_region 16 with fail
            clear qn
            by_cases hle : o2 ≤ 2 * most
            · have HEY : Hid (bestGo (okDep l L most) (some T) ((careSets n).drop (s + 1)) = R) := by
                have := HEN.out
                rw [HOK2.out, decide_eq_true hle] at this
                exact this
              have qi := run_index1 o1 o2
              go_wp2_with (go_at_call 125; refine CW1.mono ?_; rintro e w5 ⟨rfl, hb5⟩)
              have HB5 := Lib.hid (HX.out.trans (hb5.mono HX.out.size))
              clear hb5
              go_roundw
              case rel => exact ⟨s + 1, some T, by omega, by go_num, ⟨gT, cu, rfl, (RT.out.below HB5.out).mono HB5.out.size⟩, fun T' h => by cases h; exact hTn, HEY.out, HBW.out.trans (HB5.out.mono hszw)⟩
              case measure => simp [intOf]; omega
            · have HEY : Hid (bestGo (okDep l L most) none ((careSets n).drop (s + 1)) = R) := by
                have := HEN.out
                rw [HOK2.out, decide_eq_false hle] at this
                exact this
              have qi := run_index1 o1 o2
              go_wp2_with (go_at_call 125; refine CW1.mono ?_; rintro e w5 ⟨rfl, hb5⟩)
              have HB5 := Lib.hid (HX.out.trans (hb5.mono HX.out.size))
              clear hb5
              go_roundw
              case rel => exact ⟨s + 1, none, by omega, by go_num, rfl, HBL.out, HEY.out, HBW.out.trans (HB5.out.mono hszw)⟩
              case measure => simp [intOf]; omega
          | some M =>
            obtain ⟨gM, cM, hu7, hrM⟩ := BW.out
            subst hu7
            have hMn := HBL.out M rfl
            have hMc : natCells M = intCells (M.map fun (i : Nat) => (i : Int)) := by simp [natCells, intCells, Function.comp]
            have hTc : natCells T = intCells (T.map fun (i : Nat) => (i : Int)) := by simp [natCells, intCells, Function.comp]
            have hrTi : Rd wr wr.heap.size (some ⟨gT, 0, none⟩) (intCells (T.map fun (i : Nat) => (i : Int))) := hTc ▸ RT.out
            have hrMi : Rd wr wr.heap.size (some ⟨gM, 0, none⟩) (intCells (M.map fun (i : Nat) => (i : Int))) := hMc ▸ hrM
            have SC := SliceCompare_any (some ⟨gT, 0, none⟩) (some ⟨gM, 0, none⟩) T.length M.length cu cM wr.heap.size wr.heap.size _ _ wr (by omega) (List.length_map ..) (List.length_map ..) hrTi hrMi
            have CC := fun W => Compare_any (T.length : Int) (M.length : Int) W
            have HBT := Lib.hid (better_eq T M)
            obtain ⟨x1, hx1⟩ : ∃ x, cmpI (T.length : Int) (M.length : Int) = x := ⟨_, rfl⟩
            obtain ⟨x2, hx2⟩ : ∃ x, cmpL (T.map fun (i : Nat) => (i : Int)) (M.map fun (i : Nat) => (i : Int)) = x := ⟨_, rfl⟩
            have HBT2 : Hid (decide (orI x1 x2 < 0) = ltB T M) := by rw [Hid, ← hx1, ← hx2]; exact HBT.out
            simp only [hx1] at CC
            simp only [hx2] at SC
            have hX : Below wr.heap.size wr (wr.alloc (.cells #[.int .i64 x1, .int .i64 x2] 3)) := (Below.refl _ _).alloc (Nat.le_refl _) _
            have kX : (wr.alloc (.cells #[.int .i64 x1, .int .i64 x2] 3)).heap[wr.heap.size]? = some (.cells #[.int .i64 x1, .int .i64 x2] 3 (0, 0)) := by rw [heapq_alloc, if_pos rfl]
            have CO := Or_any x1 x2 wr.heap.size 2 _ ((cell_of_row _ _ 0 _ _ _ kX).trans rfl) ((cell_of_row _ _ 1 _ _ _ kX).trans rfl)
            obtain ⟨x3, hx3⟩ : ∃ x, orI x1 x2 = x := ⟨_, rfl⟩
            rw [hx3] at CO HBT2
            have HX := Lib.hid hX
            clear hMc hTc hrTi hrMi hx1 hx2 hx3 HBT hX kX
            have qr := fun W => run_eql_row gM M.length cM W
            have HRM := Lib.hid hrM
            cases hbt : ltB T M with
            | true =>
              have hbt2 : decide (x3 < 0) = true := by rw [HBT2.out, hbt]
              have HEN : Hid (bestGo (okDep l L most) (if okDep l L most T = true then some T else some M) ((careSets n).drop (s + 1)) = R) := by
                have := HE.out
                rw [HD2.out, bestGo, hbt, Bool.true_and] at this
                exact this
              go_upto_region 16 with (first | (go_at_call 128; refine (CC _).mono ?_; rintro e1 w' ⟨rfl, rfl⟩) | (go_at_call 129; refine SC.mono ?_; rintro e2 w' ⟨rfl, rfl⟩) | (go_at_call 127; refine CO.mono ?_; rintro e3 w' ⟨rfl, rfl⟩))
              clear qr CC SC CO hbt2 hbt
              have CW1 := CW (wr.alloc (.cells #[.int .i64 x1, .int .i64 x2] 3)) _ ((hrw.below (HX.out.mono (Nat.le_trans hB0 hszw))).mono (Nat.le_trans (Nat.le_trans hB0 hszw) HX.out.size)) ((RT.out.below HX.out).mono HX.out.size) (Nat.le_refl _)
              replace hcw := kept HX.out hcw
              replace hcw1 := kept HX.out hcw1
              clear CW
              generalize wr.alloc (.cells #[.int .i64 x1, .int .i64 x2] 3) = wX at *
              by_cases hle : o2 ≤ 2 * most
              · have HEY : Hid (bestGo (okDep l L most) (some T) ((careSets n).drop (s + 1)) = R) := by
                  have := HEN.out
                  rw [HOK2.out, decide_eq_true hle] at this
                  exact this
                have qi := run_index1 o1 o2
                go_wp2_with (go_at_call 125; refine CW1.mono ?_; rintro e w5 ⟨rfl, hb5⟩)
                have HB5 := Lib.hid (HX.out.trans (hb5.mono HX.out.size))
                clear hb5
                go_roundw
                case rel => exact ⟨s + 1, some T, by omega, by go_num, ⟨gT, cu, rfl, (RT.out.below HB5.out).mono HB5.out.size⟩, fun T' h => by cases h; exact hTn, HEY.out, HBW.out.trans (HB5.out.mono hszw)⟩
                case measure => simp [intOf]; omega
              · have HEY : Hid (bestGo (okDep l L most) (some M) ((careSets n).drop (s + 1)) = R) := by
                  have := HEN.out
                  rw [HOK2.out, decide_eq_false hle] at this
                  exact this
                have qi := run_index1 o1 o2
                go_wp2_with (go_at_call 125; refine CW1.mono ?_; rintro e w5 ⟨rfl, hb5⟩)
                have HB5 := Lib.hid (HX.out.trans (hb5.mono HX.out.size))
                clear hb5
                go_roundw
                case rel => exact ⟨s + 1, (some M), by omega, by go_num, ⟨gM, cM, rfl, (HRM.out.below HB5.out).mono HB5.out.size⟩, HBL.out, HEY.out, HBW.out.trans (HB5.out.mono hszw)⟩
                case measure => simp [intOf]; omega
            | false =>
              have hbt2 : decide (x3 < 0) = false := by rw [HBT2.out, hbt]
              have HEY : Hid (bestGo (okDep l L most) (some M) ((careSets n).drop (s + 1)) = R) := by
                have := HE.out
                rw [HD2.out, bestGo, hbt, Bool.false_and] at this
                exact this
              go_upto_region 16 with (first | (go_at_call 128; refine (CC _).mono ?_; rintro e1 w' ⟨rfl, rfl⟩) | (go_at_call 129; refine SC.mono ?_; rintro e2 w' ⟨rfl, rfl⟩) | (go_at_call 127; refine CO.mono ?_; rintro e3 w' ⟨rfl, rfl⟩))
              clear qr CC SC CO hbt2 hbt CW
              generalize wr.alloc (.cells #[.int .i64 x1, .int .i64 x2] 3) = wX at *
              go_wp2
              go_roundw
              case rel => exact ⟨s + 1, some M, by omega, by go_num, ⟨gM, cM, rfl, (HRM.out.below HX.out).mono HX.out.size⟩, HBL.out, HEY.out, HBW.out.trans (HX.out.mono hszw)⟩
              case measure => simp [intOf]; omega
    · have hcond : decide ((s : Int) + 1 < wrap64 (2 ^ n)) = false := by rw [HWP.out]; exact decide_eq_false (by omega)
      have HBR : Hid (b = R) := by
        have := HE.out
        rw [List.drop_eq_nil_iff.2 (by rw [HLC.out]; omega), best_nil] at this
        exact this
      have HFIN := Lib.hid (HB.out.trans (HBK.out.mono hs0))
      clear hr
      cases b with
      | none =>
        have hu7 : u7 = .slice none 0 0 := HBE.out
        subst hu7
        have qn := run_neq_nil
        go_wp2_with (go_at_call 92; refine (unless_any _ _ _).mono ?_; rintro e1 w' ⟨rfl, rfl⟩)
        go_ret2
        exact ⟨.slice none 0 0, by rw [← HBR.out]; rfl, by rw [← HBR.out]; rfl, HFIN.out⟩
      | some M =>
        obtain ⟨gM, cM, hu7, hrM⟩ := HBE.out
        subst hu7
        have HRM := Lib.hid hrM
        have qr := fun W => run_neq_row gM M.length cM W
        clear hrM
        go_wp2_with (go_at_call 92; refine (unless_any _ _ _).mono ?_; rintro e1 w' ⟨rfl, rfl⟩)
        go_ret2
        exact ⟨.slice (some ⟨gM, 0, none⟩) M.length cM, by rw [← HBR.out]; rfl, by rw [← HBR.out]; exact ⟨gM, cM, rfl, HRM.out⟩, HFIN.out⟩
end Go.Proofs.YtmcjnfghlpnghaaDoor

namespace Go.Proofs.YtmcjnfghlpnghaaDoor
open Go.RowKit

theorem setsZ_len : ∀ (l : List Int) (k : Nat), (setsZ l k).length ≤ 2 ^ l.length
  | l, 0 => by
    have : setsZ l 0 = [[]] := by cases l <;> rfl
    rw [this]
    exact Nat.one_le_two_pow
  | [], _ + 1 => by simp [setsZ]
  | x :: l, k + 1 => by
    have h1 := setsZ_len l k
    have h2 := setsZ_len l (k + 1)
    simp only [setsZ, List.length_append, List.length_map, List.length_cons, Nat.pow_succ]
    omega
theorem setsZ_each {l : List Int} {k : Nat} {T : List Int} (h : T ∈ setsZ l k) : T.length ≤ l.length := ((setsZ_mem l k T).1 h).1.length_le

theorem own_cap {w : World} {B e size n c : Nat} {A : Option Addr} {xs : List Value} (h : w.ownsRow B e size (.slice A n c) n xs) : n ≤ c := by
  rcases h.2 with ⟨h1, h2⟩ | ⟨g, cap, cur, h1, _, _, h3, _⟩
  · omega
  · simp only [Value.slice.injEq] at h1
    omega

/-- an append of a whole list to a slice of the call's own -/
theorem wpList_append_on (w : World) {ops : Array Oper} {rest : List Oper} {o : Oper} {a : Act} {Q : Exit → Act → World → Prop} (hgd : o.guard = none) (s x : Operand) (t : TypeId)
    (ho : o.op = .call { callee := .builtin .append, args := #[s, x], argTypes := #[t, t] })
    (base : Nat) (e : TypeId) (i : TypeInfo) (z : Value) (size bytes : Nat) (ht : Tryd.prog.underlying t = some (.slice e)) (hi : Tryd.prog.info? e = some i) (hz : i.zero = some z)
    (hsize : i.size = size) (hby : i.bytes = bytes) (hzs : z.cells.size = size) (hsz : 0 < size)
    (g0 n0 cap0 : Nat) (olds : List Value) (hs : a.eval s = .slice (some ⟨g0, 0, none⟩) n0 cap0) (hown : w.ownsRow base e size (.slice (some ⟨g0, 0, none⟩) n0 cap0) n0 olds)
    (B : Nat) (A : Option Addr) (m c : Nat) (news : List Value) (hx : a.eval x = .slice A m c) (hl : news.length = m * size) (hrd : Rd w B A news) (h1 : ∀ u ∈ news, u.oneCell' = true)
    (h63 : n0 + m ≤ maxLen) (hbytes : (n0 + m) * bytes ≤ 140737488355328) (hbase : base ≤ w.heap.size)
    (h : ∀ g cap w', w'.ownsRow base e size (.slice (some ⟨g, 0, none⟩) (n0 + m) cap) (n0 + m) (olds ++ news) → w.grownBy w' (some g0) → (g0 = g ∨ g = w.heap.size) → wpList Tryd.prog ops Q rest (a.put o.dst (.slice (some ⟨g, 0, none⟩) (n0 + m) cap)) w') : wpList Tryd.prog ops Q (o :: rest) a w := by
  rcases Nat.eq_zero_or_pos m with rfl | hm
  · have hn : news = [] := by simpa using hl
    subst hn
    refine wpList_plain hgd fun K hK' => ?_
    have hr := run_append_nothing (P := Tryd.prog) w t t o.type e i ht hi (some ⟨g0, 0, none⟩) n0 cap0 (own_cap hown) (.slice A 0 c) ?_
    · unfold Oper.wp
      simp [execOp, ho, resolve, invoke, builtin, hs, hx, hr, Result.andThen]
      exact hK' _ _ (h g0 cap0 w (by simpa using hown) ⟨rfl, rfl, rfl, Nat.le_refl _, fun _ _ _ => rfl⟩ (.inl rfl))
    · rw [hsize]
      cases A with
      | none => exact Src.ofNil w ht c
      | some ad => exact Src.ofSlice w ht ad 0 c [] (by simp) (fun j u hu => by simp at hu) (fun u hu => by simp at hu)
  · have hlen : 0 < news.length := by rw [hl]; exact Nat.mul_pos hm hsz
    obtain ⟨b, off, rfl, _, _⟩ := hrd 0 _ (List.getElem?_eq_getElem hlen)
    refine wpList_append_lies w hgd s x t ho base e i z size bytes ht hi hz hsize hby hzs hsz (.slice (some ⟨g0, 0, none⟩) n0 cap0) n0 olds hs hown ⟨b, off, none⟩ m c news hx hl ?_ h1 hm h63 hbytes hbase _ rfl ?_
    · intro j u hu
      obtain ⟨b', off', he, _, hc⟩ := hrd j u hu
      simp only [Option.some.injEq, Addr.mk.injEq, and_true] at he
      obtain ⟨rfl, rfl⟩ := he
      simp only [Addr.add]
      split
      · rename_i hj
        subst hj
        simpa using hc
      · exact hc
    · intro g cap w' hown' hgrow hat _
      refine h g cap w' hown' hgrow ?_
      rcases hat with h2 | h2
      · left
        simpa [Value.ownBlock] using h2
      · exact .inr h2

/-- rows of numbers, each in memory of its own -/
def SetsAt (w : World) (B : Nat) (hs : List Value) (xss : List (List Int)) : Prop :=
  hs.length = xss.length ∧ ∀ (i : Nat) (xs : List Int), xss[i]? = some xs → ∃ v, hs[i]? = some v ∧ w.ownsRow B 3 1 v xs.length (intCells xs)
theorem own_keep {w w' : World} {B e size : Nat} {v : Value} {n : Nat} {xs : List Value} (h : w.ownsRow B e size v n xs) (hk : ∀ (k : Nat) (cur : Array Value), w.heap[k]? = some (Obj.cells cur e (0, 0)) → w'.heap[k]? = w.heap[k]?) : w'.ownsRow B e size v n xs := by
  refine ⟨h.1, ?_⟩
  rcases h.2 with h2 | ⟨g, cap, cur, h1, h2, h3, h4⟩
  · exact .inl h2
  · exact .inr ⟨g, cap, cur, h1, h2, (hk g cur h3).trans h3, h4⟩
theorem SetsAt.keep {w w' : World} {B : Nat} {hs : List Value} {xss : List (List Int)} (h : SetsAt w B hs xss) (hk : ∀ (k : Nat) (cur : Array Value), w.heap[k]? = some (Obj.cells cur 3 (0, 0)) → w'.heap[k]? = w.heap[k]?) : SetsAt w' B hs xss :=
  ⟨h.1, fun i xs hi => by
    obtain ⟨v, h1, h2⟩ := h.2 i xs hi
    exact ⟨v, h1, own_keep h2 hk⟩⟩
theorem SetsAt.below {w w' : World} {B : Nat} {hs : List Value} {xss : List (List Int)} (h : SetsAt w B hs xss) (hb : Below w.heap.size w w') : SetsAt w' B hs xss :=
  h.keep fun k _ hk => hb.block k (lt_of_block hk)
theorem SetsAt.mono {w : World} {B B' : Nat} {hs : List Value} {xss : List (List Int)} (h : SetsAt w B hs xss) (hB : B' ≤ B) : SetsAt w B' hs xss :=
  ⟨h.1, fun i xs hi => by
    obtain ⟨v, h1, h2, h3⟩ := h.2 i xs hi
    refine ⟨v, h1, h2, ?_⟩
    rcases h3 with h3 | ⟨g, cap, cur, h3, h4, h5⟩
    · exact .inl h3
    · exact .inr ⟨g, cap, cur, h3, Nat.le_trans hB h4, h5⟩⟩
theorem SetsAt.snoc {w : World} {B : Nat} {hs : List Value} {xss : List (List Int)} {v : Value} {xs : List Int} (h : SetsAt w B hs xss) (hv : w.ownsRow B 3 1 v xs.length (intCells xs)) : SetsAt w B (hs ++ [v]) (xss ++ [xs]) := by
  refine ⟨by simp [h.1], fun i ys hi => ?_⟩
  rcases Nat.lt_or_ge i xss.length with hlt | hge
  · rw [List.getElem?_append_left hlt] at hi
    obtain ⟨u, h1, h2⟩ := h.2 i ys hi
    exact ⟨u, by rw [List.getElem?_append_left (by rw [h.1]; exact hlt)]; exact h1, h2⟩
  · rw [List.getElem?_append_right hge] at hi
    have hz : i - xss.length = 0 := by
      have := (List.getElem?_eq_some_iff.1 hi).1
      simp at this
      omega
    rw [hz] at hi
    obtain rfl : xs = ys := by simpa using hi
    exact ⟨v, by rw [List.getElem?_append_right (by rw [h.1]; exact hge), h.1, hz]; rfl, hv⟩

def SetsPost (w : World) (xss : List (List Int)) (e : Ending) (w' : World) : Prop :=
  ∃ A c hs, e = .returned (.slice A xss.length c) ∧ Rd w' w'.heap.size A hs ∧ SetsAt w' w.heap.size hs xss ∧ (∀ b off, A = some ⟨b, off, none⟩ → w.heap.size ≤ b) ∧ Below w.heap.size w w'
theorem info39s : (Tryd.prog.info? 39).map (fun i => (i.zero, i.size, i.bytes)) = some (some (.slice none 0 0), 1, 24) := by kernel_rfl

def SetsRel (w0 : World) (l : List Int) (n k : Nat) (F : List (List Int)) (u5 u6 : Value) (wr : World) : Prop :=
  ∃ (i : Nat) (acc : List (List Int)) (hs : List Value), i ≤ n ∧ u6 = .int .i64 i ∧ wr.ownsRow w0.heap.size 39 1 u5 acc.length hs ∧ SetsAt wr w0.heap.size hs acc ∧ acc ++ setsZ (l.drop i) (k + 1) = F ∧ Below w0.heap.size w0 wr
def RestRel (w0 : World) (x : Int) (rest F : List (List Int)) (Ar : Option Addr) (hr : List Value) (u5 u8 : Value) (wr : World) : Prop :=
  ∃ (j : Nat) (acc : List (List Int)) (hs : List Value), j ≤ rest.length ∧ u8 = .int .i64 j ∧ wr.ownsRow w0.heap.size 39 1 u5 acc.length hs ∧ SetsAt wr w0.heap.size hs acc ∧ acc ++ (rest.drop j).map (x :: ·) = F ∧
    Rd wr wr.heap.size Ar hr ∧ SetsAt wr w0.heap.size hr rest ∧ (∀ b off, Ar = some ⟨b, off, none⟩ → u5.ownBlock ≠ some b) ∧ Below w0.heap.size w0 wr

theorem setsZ_drop {l : List Int} {i k : Nat} {x : Int} (h : l.drop i = x :: l.drop (i + 1)) : setsZ (l.drop i) (k + 1) = (setsZ (l.drop (i + 1)) k).map (x :: ·) ++ setsZ (l.drop (i + 1)) (k + 1) := by rw [h, setsZ]
theorem Rd.tail {w : World} {B b off : Nat} {l : List Int} (i : Nat) (h : Rd w B (some ⟨b, off, none⟩) (intCells l)) : Rd w B (some ⟨b, off + i, none⟩) (intCells (l.drop i)) := by
  intro k u hk
  have hk2 : (intCells l)[i + k]? = some u := by
    have : intCells (l.drop i) = (intCells l).drop i := by simp [intCells]
    rw [this, List.getElem?_drop] at hk
    exact hk
  obtain ⟨b', o', he, hb, hc⟩ := h (i + k) u hk2
  simp only [Option.some.injEq, Addr.mk.injEq, and_true] at he
  obtain ⟨rfl, rfl⟩ := he
  exact ⟨b, off + i, rfl, hb, by rw [Nat.add_assoc]; exact hc⟩

theorem own_ne {w : World} {B n : Nat} {v : Value} {xs : List Value} (h : w.ownsRow B 39 1 v n xs) {k : Nat} {cur : Array Value} (hk : w.heap[k]? = some (Obj.cells cur 3 (0, 0))) : some k ≠ v.ownBlock := fun he => by
  obtain ⟨_, _, cur', hc⟩ := ownBlk h he.symm
  rw [hk] at hc
  simp at hc

def SetsAll (k : Nat) : Prop := ∀ (w : World) (B : Nat) (A : Option Addr) (n c : Nat) (l : List Int), l.length = n → n ≤ 12 → n ≤ c → Rd w B A (intCells l) → B ≤ w.heap.size →
    Calls Tryd.prog 130 #[.slice A n c, .int .i64 (k : Int)] w (SetsPost w (setsZ l k))

set_option maxHeartbeats 2000000 in
theorem sets_zero : SetsAll 0 := by
  intro w B A n c l hl hn hc h hB
  have hz : setsZ l 0 = [[]] := by cases l <;> rfl
  rw [hz]
  clear hl h hz
  go_enter Tryd.func130, Tryd.ntmps130
  go_wp2
  go_ret
  refine ⟨_, _, [.slice none 0 0], rfl, ?_, ⟨rfl, fun i xs hi => ?_⟩, ?_, (Below.refl _ _).alloc (Nat.le_refl _) _⟩
  · intro k u hk
    refine ⟨w.heap.size, 0, rfl, by simp, ?_⟩
    have h0 : k = 0 := by
      have := (List.getElem?_eq_some_iff.1 hk).1
      simp at this
      omega
    subst h0
    have := cell_of_row (w.alloc (.cells #[.slice none 0 0] 39)) w.heap.size 0 _ _ _ (by rw [heapq_alloc, if_pos rfl])
    rw [this]
    simpa using hk
  · have h0 : i = 0 := by
      have := (List.getElem?_eq_some_iff.1 hi).1
      simp at this
      omega
    subst h0
    obtain rfl : [] = xs := by simpa using hi
    exact ⟨.slice none 0 0, rfl, rfl, .inl ⟨rfl, rfl⟩⟩
  · intro b off hb
    simp only [Option.some.injEq, Addr.mk.injEq, and_true] at hb
    obtain ⟨rfl, _⟩ := hb
    exact Nat.le_refl _

set_option maxRecDepth 100000 in
set_option maxHeartbeats 16000000 in
theorem sets_succ (k : Nat) (hk : k ≤ 1000) (IH : SetsAll k) : SetsAll (k + 1) := by
  intro w B A n c l hl hn hc h hB
  obtain ⟨i1, hi1, hy0, hy1, hy2⟩ := info_parts info3
  obtain ⟨i9, hi9, hz0, hz1, hz2⟩ := info_parts info39s
  obtain ⟨F, hF⟩ : ∃ F, setsZ l (k + 1) = F := ⟨_, rfl⟩
  have hFl : F.length ≤ 4096 := by
    rw [← hF]
    refine Nat.le_trans (setsZ_len l (k + 1)) (Nat.le_trans (Nat.pow_le_pow_right (by omega) (show l.length ≤ 12 by omega)) (by decide))
  rw [hF]
  have HF := Lib.hid hF
  have HL := Lib.hid hl
  have HFL := Lib.hid hFl
  clear hl hF hFl
  have hkk : ((k : Int) + 1 == 0) = false := by rw [beq_eq_false_iff_ne]; omega
  have hk1 : ((k + 1 : Nat) : Int) = (k : Int) + 1 := by omega
  rw [hk1]
  clear hk1
  go_enter Tryd.func130, Tryd.ntmps130
  go_wp2
  go_loopw [5, 6] (fun u5 u6 wr => SetsRel w l n k F u5 u6 wr) (fun _ u6 _ => n - (intOf u6).toNat)
  case atStart => exact ⟨0, [], [], Nat.zero_le _, rfl, ⟨rfl, .inl ⟨rfl, rfl⟩⟩, ⟨rfl, fun i xs hi => by simp at hi⟩, by rw [List.drop_zero]; exact HF.out, Below.refl _ _⟩
  case round =>
    obtain ⟨i, acc, hs, hi, rfl, hown, hset, he, hb⟩ := hrel
    obtain ⟨Au, cu, rfl⟩ := rowForm hown
    have HOWN := Lib.hid hown
    have HSET := Lib.hid hset
    have HE := Lib.hid he
    have HB := Lib.hid hb
    have hsz := hb.size
    have hr := h.below (hb.mono hB)
    have hb0 := hb
    clear hown hset he hb
    by_cases hlt : i < n
    · have hil : i < l.length := by rw [HL.out]; exact hlt
      obtain ⟨bl, offl, rfl, hbl, e00⟩ := h.at_ (intCells_at l i hil)
      have e0 := keptB hb0 (p := ⟨bl, offl + i, none⟩) (show bl < w.heap.size by omega) e00
      have HS := Lib.hid (drop_at l 0 i hil)
      generalize l[i]?.getD 0 = x at *
      have HE1 : Hid ((acc ++ (setsZ (l.drop (i + 1)) k).map (x :: ·)) ++ setsZ (l.drop (i + 1)) (k + 1) = F) := by
        rw [Hid, List.append_assoc, ← setsZ_drop HS.out]
        exact HE.out
      obtain ⟨F2, hF2⟩ : ∃ F2, acc ++ (setsZ (l.drop (i + 1)) k).map (x :: ·) = F2 := ⟨_, rfl⟩
      rw [hF2] at HE1
      have HF2 := Lib.hid hF2
      have hF2l : F2.length ≤ 4096 := by
        have h1 := congrArg List.length HE1.out
        rw [List.length_append] at h1
        have := HFL.out
        omega
      have HF2L := Lib.hid hF2l
      clear hF2l
      have hdl : (l.drop (i + 1)).length = n - (i + 1) := by rw [List.length_drop, HL.out]
      have hrt := hr.tail (i + 1)
      have hres : (setsZ (l.drop (i + 1)) k).length ≤ 4096 := Nat.le_trans (setsZ_len _ k) (Nat.le_trans (Nat.pow_le_pow_right (by omega) (show (l.drop (i + 1)).length ≤ 12 by omega)) (by decide))
      have heach : ∀ T ∈ setsZ (l.drop (i + 1)) k, T.length ≤ 12 := fun T hT => by
        have := setsZ_each hT
        omega
      by_cases hci : c = i + 1
      · have hnil : l.drop (i + 1) = [] := by rw [List.drop_eq_nil_iff, HL.out]; omega
        have C : Calls Tryd.prog 130 #[.slice (some ⟨bl, offl, none⟩) (n - (i + 1)) 0, .int .i64 (k : Int)] wr (SetsPost wr (setsZ (l.drop (i + 1)) k)) := by
          rw [hnil] at hdl ⊢
          exact IH wr wr.heap.size _ _ _ [] hdl (by omega) (by omega) (fun k u hk => by simp [intCells] at hk) (Nat.le_refl _)
        clear hnil
        clear hb0
        generalize hrest : setsZ (l.drop (i + 1)) k = rest at *
        have HRES := Lib.hid hres
        have HEACH := Lib.hid heach
        clear hF2 hil HE hdl hrt IH hres heach hrest
        go_upto_region 8 with fail
        refine C.mono ?_
        rintro e w1 ⟨Ar, cr, hr1, rfl, hrd1, hset1, hap1, hb1⟩
        have HCI := Lib.hid hci
        clear hci
        rw [← HCI.out]
        have HB1 := Lib.hid (HB.out.trans (hb1.mono hsz))
        have OWN1 := Lib.hid (ownsRow_below HOWN.out hb1)
        have SET1 := Lib.hid (HSET.out.below hb1)
        have SETR := Lib.hid (hset1.mono hsz)
        have HAP : Hid (∀ b off, Ar = some ⟨b, off, none⟩ → (Value.slice Au acc.length cu).ownBlock ≠ some b) := fun b off hA he => by
          have h1 := hap1 b off hA
          have h2 := (ownBlk HOWN.out he).2.1
          omega
        have HRD := Lib.hid hrd1
        have e1 := kept hb1 e0
        have hsz1 := Nat.le_trans hsz hb1.size
        clear C HOWN HSET HB hrd1 hset1 hap1 hb1 e0 hr
        have HXE := Lib.hid e1
        clear e1
        go_wp2
        go_loopw [5, 8] (fun u5 u8 wr => RestRel w x rest F2 Ar hr1 u5 u8 wr) (fun _ u8 _ => rest.length - (intOf u8).toNat)
        case atStart => exact ⟨0, acc, hs, Nat.zero_le _, rfl, OWN1.out, SET1.out, by rw [List.drop_zero]; exact HF2.out, HRD.out, SETR.out, HAP.out, HB1.out⟩
        case round =>
          clear OWN1 SET1 HRD SETR HAP HB1 HF2 HXE
          have hres := HRES.out
          obtain ⟨j, acc2, hs2, hj, rfl, hown, hset, he, hrd, hsr, hap, hb⟩ := hrel
          obtain ⟨Av, cv, rfl⟩ := rowForm hown
          have HOWN := Lib.hid hown
          have HSET := Lib.hid hset
          have HE2 := Lib.hid he
          have HSR := Lib.hid hsr
          have HAP := Lib.hid hap
          have HB := Lib.hid hb
          have HRD := Lib.hid hrd
          have hszr := hb.size
          have e1 := keptB hb (p := ⟨bl, offl + i, none⟩) (show bl < w.heap.size by omega) e00
          clear hown hset he hsr hap
          by_cases hltj : j < rest.length
          · obtain ⟨v, hv1, hv2⟩ := HSR.out.2 j rest[j] (List.getElem?_eq_getElem hltj)
            obtain ⟨br, offr, hAr, _, e2⟩ := hrd.at_ hv1
            obtain ⟨Aj, cj, rfl⟩ := rowForm hv2
            have hT12 := HEACH.out rest[j] (List.getElem_mem hltj)
            have HE3 : Hid ((acc2 ++ [x :: rest[j]]) ++ (rest.drop (j + 1)).map (x :: ·) = F2) := by
              have := HE2.out
              rw [List.drop_eq_getElem_cons hltj, List.map_cons] at this
              rw [Hid, List.append_assoc]
              exact this
            have hacc : acc2.length ≤ 4096 := by
              have h1 := congrArg List.length HE2.out
              rw [List.length_append] at h1
              have := HF2L.out
              omega
            have HRT := Lib.hid (rd_own hv2)
            generalize rest[j] = T at *
            subst hAr
            clear hv1 hv2 hrd HE2 hb
            go_upto_region 11 with (fail)
            have x0 := fun y : Xt wr => y.cell e1
            have x1 := fun y : Xt wr => y.cell e2
            refine wp_region_eager [12, 13] (fun w' => ∃ x : Xt wr, w' = x.1) (by kernel_rfl) ⟨⟨wr.drew, (Below.refl _ _).drew⟩, rfl⟩ ?_
            refine wpE_reads [0, 1, 2, 3, 4, 6, 7, 8, 9] 5 rfl (by kernel_rfl) ?_
            simp only [opsAt_nil, opsAt_cons, consOpt_some, List.getElem?_toArray, List.getElem?_cons_zero, List.getElem?_cons_succ]
            repeat (go_big_quiet_step (fail))
            refine wpQuiet_nil ?_
            have hbd : Below wr.heap.size wr wr.drew := (Below.refl _ _).drew
            show wpE _ _ _ _ _ _ _ _ _ wr.drew
            clear x0 x1 e1
            generalize wr.drew = wd at *
            -- the slice of one number
            refine wpE_one (i := 5) rfl (by kernel_rfl) rfl ?_
            unfold wpMid
            simp only [opsAt_nil, opsAt_cons, consOpt_some, List.getElem?_toArray, List.getElem?_cons_zero, List.getElem?_cons_succ]
            go_wp2
            have hb2 : Below wr.heap.size wr (wd.alloc (.cells #[.int .i64 x] 3)) := hbd.alloc hbd.size _
            have own2 : (wd.alloc (.cells #[.int .i64 x] 3)).ownsRow w.heap.size 3 1 (.slice (some ⟨wd.heap.size, 0, none⟩) 1 1) 1 [.int .i64 x] := ⟨rfl, .inr ⟨wd.heap.size, 1, #[Value.int IntKind.i64 x], rfl, by have := hbd.size; omega, by rw [heapq_alloc, if_pos rfl], by omega, by simp only [maxLen]; omega, rfl, rfl⟩⟩
            have hg2 : wr.heap.size ≤ wd.heap.size := hbd.size
            generalize wd.alloc (.cells #[.int .i64 x] 3) = wz at *
            generalize wd.heap.size = gz at *
            refine onlyNormal_mk ⟨⟨⟨_, hb2⟩, rfl⟩, ?_⟩
            -- the rest of the set behind it
            refine wpE_one (i := 10) rfl (by kernel_rfl) rfl ?_
            unfold wpMid
            simp only [opsAt_nil, opsAt_cons, consOpt_some, List.getElem?_toArray, List.getElem?_cons_zero, List.getElem?_cons_succ]
            go_wp2_with (at_builtin; refine stp ?_)
            unfold Stp
            refine wpList_append_on _ rfl _ _ 39 rfl w.heap.size 3 i1 _ 1 8 Tryd.underlying39 hi1 hy0 hy1 hy2 rfl (by omega) gz 1 1 [.int .i64 x] rfl own2 wr.heap.size Aj T.length cj (intCells T) rfl (by simp [intCells]) (HRT.out.below hb2) (intCells_one T) (by simp only [maxLen]; omega) (by omega) (by have := hb2.size; omega) ?_
            intro g1 cap1 w3 hown3 hgrow3 hat3
            have hb3 : Below wr.heap.size wr w3 := hb2.grown hgrow3 hb2.size (fun k hk => by rw [← Option.some.inj hk]; exact hg2)
            have hg3 : wr.heap.size ≤ g1 := by have := hb2.size; omega
            have OWN3 := Lib.hid hown3
            clear hown3 hgrow3 hat3 own2 hb2 hg2
            go_wp2
            refine onlyNormal_mk ⟨⟨⟨_, hb3⟩, rfl⟩, ?_⟩
            refine wpE_one (i := 11) rfl (by kernel_rfl) rfl ?_
            unfold wpMid
            simp only [opsAt_nil, opsAt_cons, consOpt_some, List.getElem?_toArray, List.getElem?_cons_zero, List.getElem?_cons_succ]
            go_wp2
            have hb4 : Below wr.heap.size wr (w3.alloc (.cells #[.slice (some ⟨g1, 0, none⟩) (1 + T.length) cap1] 39)) := hb3.alloc hb3.size _
            have k4 : (w3.alloc (.cells #[.slice (some ⟨g1, 0, none⟩) (1 + T.length) cap1] 39)).cell? ⟨w3.heap.size, 0, none⟩ = some (.slice (some ⟨g1, 0, none⟩) (1 + T.length) cap1) := (cell_of_row _ _ 0 _ _ _ (by rw [heapq_alloc, if_pos rfl])).trans rfl
            have OWN4 : Hid ((w3.alloc (.cells #[.slice (some ⟨g1, 0, none⟩) (1 + T.length) cap1] 39)).ownsRow w.heap.size 3 1 (.slice (some ⟨g1, 0, none⟩) (1 + T.length) cap1) (1 + T.length) ([.int .i64 x] ++ intCells T)) := OWN3.out.alloc _
            have hg4 : wr.heap.size ≤ w3.heap.size := hb3.size
            clear OWN3 hb3
            generalize w3.alloc (.cells #[.slice (some ⟨g1, 0, none⟩) (1 + T.length) cap1] 39) = w4 at *
            generalize w3.heap.size = g4 at *
            refine onlyNormal_mk ⟨⟨⟨_, hb4⟩, rfl⟩, ?_⟩
            refine wpE_tail rfl (by kernel_rfl) ?_
            simp only [opsAt_nil, opsAt_cons, consOpt_some, List.getElem?_toArray, List.getElem?_cons_zero, List.getElem?_cons_succ]
            go_wp2_with (at_builtin; refine stp ?_)
            unfold Stp
            refine wpList_append_lies _ rfl _ _ 157 rfl w.heap.size 39 i9 _ 1 24 Tryd.underlying157 hi9 hz0 hz1 hz2 rfl (by omega) (.slice Av acc2.length cv) acc2.length hs2 rfl (ownsRow_below HOWN.out hb4) ⟨g4, 0, none⟩ 1 1 [.slice (some ⟨g1, 0, none⟩) (1 + T.length) cap1] rfl rfl (news1 k4) (by simp [Value.oneCell']) (by omega) (by simp only [maxLen]; omega) (by omega) (by have := hb4.size; omega) _ rfl ?_
            intro gg cap2 w5 hown5 hgrow5 hat5 hlt5
            have hs4 := hb4.size
            have hown4 := ownsRow_below HOWN.out hb4
            have hk3 : ∀ (k : Nat) (cur : Array Value), w4.heap[k]? = some (Obj.cells cur 3 (0, 0)) → w5.heap[k]? = w4.heap[k]? := fun k cur hk => hgrow5.block k (lt_of_block hk) (own_ne hown4 hk)
            have SET5 : Hid (SetsAt w5 w.heap.size (hs2 ++ [.slice (some ⟨g1, 0, none⟩) (1 + T.length) cap1]) (acc2 ++ [x :: T])) :=
              ((HSET.out.below hb4).snoc (by rw [List.length_cons, Nat.add_comm T.length 1]; exact OWN4.out)).keep hk3
            have SR5 : Hid (SetsAt w5 w.heap.size hr1 rest) := (HSR.out.below hb4).keep hk3
            have HB5 : Hid (Below w.heap.size w w5) := (HB.out.trans (hb4.mono hszr)).grown hgrow5 (by omega) (fun k hk => (ownBlk hown4 hk).1)
            have hbr : br < wr.heap.size := lt_of_cell e2
            have HAP5 : Hid (∀ b off, (some ⟨br, offr, none⟩ : Option Addr) = some ⟨b, off, none⟩ → (Value.slice (some ⟨gg, 0, none⟩) (acc2.length + 1) cap2).ownBlock ≠ some b) := by
              intro b off hb he
              simp only [Option.some.injEq, Addr.mk.injEq, and_true] at hb
              obtain ⟨rfl, rfl⟩ := hb
              have he' : gg = br := by simpa [Value.ownBlock] using he
              rcases hat5 with h5 | h5
              · exact HAP.out br offr rfl (he' ▸ h5)
              · omega
            have HRD5 : Hid (Rd w5 w5.heap.size (some ⟨br, offr, none⟩) hr1) := by
              intro k u hk
              obtain ⟨b', o', he, hlt', hc⟩ := (HRD.out.below hb4) k u hk
              simp only [Option.some.injEq, Addr.mk.injEq, and_true] at he
              obtain ⟨rfl, rfl⟩ := he
              refine ⟨br, offr, rfl, by have := hgrow5.size; omega, ?_⟩
              rw [hgrow5.cell_far ⟨br, offr + k, none⟩ (by simp only; omega) (fun he => HAP.out br offr rfl he.symm)]
              exact hc
            have HOWN5 := Lib.hid hown5
            clear hown5 hgrow5 hat5 hlt5 hown4 hk3 hb4 k4 OWN4 HOWN HSET HSR HB HAP HRD e2
            go_wp2
            refine onlyNormal_mk ?_
            go_wp2
            go_roundw
            case rel => exact ⟨j + 1, acc2 ++ [x :: T], _, by omega, by go_num, by simpa using HOWN5.out, SET5.out, HE3.out, HRD5.out, SR5.out, HAP5.out, HB5.out⟩
            case measure => simp [intOf]; omega
          · obtain rfl : j = rest.length := by omega
            have HE3 : Hid (acc2 = F2) := by
              have := HE2.out
              rw [List.drop_length, List.map_nil, List.append_nil] at this
              exact this
            have HE4 : Hid (acc2 ++ setsZ (l.drop (i + 1)) (k + 1) = F) := by
              rw [Hid, HE3.out]
              exact HE1.out
            clear hrd hb HE3 HE2 HRD HAP HSR
            go_wp2
            go_roundw
            case rel => exact ⟨i + 1, acc2, hs2, by omega, by go_num, HOWN.out, HSET.out, HE4.out, HB.out⟩
            case measure => simp [intOf]; omega
      · have C : Calls Tryd.prog 130 #[.slice (some ⟨bl, offl + (i + 1), none⟩) (n - (i + 1)) (c - (i + 1)), .int .i64 (k : Int)] wr (SetsPost wr (setsZ (l.drop (i + 1)) k)) :=
          IH wr B _ _ _ _ hdl (by omega) (by omega) hrt (Nat.le_trans hB hsz)
        clear hb0
        generalize hrest : setsZ (l.drop (i + 1)) k = rest at *
        have HRES := Lib.hid hres
        have HEACH := Lib.hid heach
        clear hF2 hil HE hdl hrt IH hres heach hrest
        go_upto_region 8 with fail
        refine C.mono ?_
        rintro e w1 ⟨Ar, cr, hr1, rfl, hrd1, hset1, hap1, hb1⟩
        have HB1 := Lib.hid (HB.out.trans (hb1.mono hsz))
        have OWN1 := Lib.hid (ownsRow_below HOWN.out hb1)
        have SET1 := Lib.hid (HSET.out.below hb1)
        have SETR := Lib.hid (hset1.mono hsz)
        have HAP : Hid (∀ b off, Ar = some ⟨b, off, none⟩ → (Value.slice Au acc.length cu).ownBlock ≠ some b) := fun b off hA he => by
          have h1 := hap1 b off hA
          have h2 := (ownBlk HOWN.out he).2.1
          omega
        have HRD := Lib.hid hrd1
        have e1 := kept hb1 e0
        have hsz1 := Nat.le_trans hsz hb1.size
        clear C HOWN HSET HB hrd1 hset1 hap1 hb1 e0 hr
        have HXE := Lib.hid e1
        clear e1
        go_wp2
        go_loopw [5, 8] (fun u5 u8 wr => RestRel w x rest F2 Ar hr1 u5 u8 wr) (fun _ u8 _ => rest.length - (intOf u8).toNat)
        case atStart => exact ⟨0, acc, hs, Nat.zero_le _, rfl, OWN1.out, SET1.out, by rw [List.drop_zero]; exact HF2.out, HRD.out, SETR.out, HAP.out, HB1.out⟩
        case round =>
          clear OWN1 SET1 HRD SETR HAP HB1 HF2 HXE
          have hres := HRES.out
          obtain ⟨j, acc2, hs2, hj, rfl, hown, hset, he, hrd, hsr, hap, hb⟩ := hrel
          obtain ⟨Av, cv, rfl⟩ := rowForm hown
          have HOWN := Lib.hid hown
          have HSET := Lib.hid hset
          have HE2 := Lib.hid he
          have HSR := Lib.hid hsr
          have HAP := Lib.hid hap
          have HB := Lib.hid hb
          have HRD := Lib.hid hrd
          have hszr := hb.size
          have e1 := keptB hb (p := ⟨bl, offl + i, none⟩) (show bl < w.heap.size by omega) e00
          clear hown hset he hsr hap
          by_cases hltj : j < rest.length
          · obtain ⟨v, hv1, hv2⟩ := HSR.out.2 j rest[j] (List.getElem?_eq_getElem hltj)
            obtain ⟨br, offr, hAr, _, e2⟩ := hrd.at_ hv1
            obtain ⟨Aj, cj, rfl⟩ := rowForm hv2
            have hT12 := HEACH.out rest[j] (List.getElem_mem hltj)
            have HE3 : Hid ((acc2 ++ [x :: rest[j]]) ++ (rest.drop (j + 1)).map (x :: ·) = F2) := by
              have := HE2.out
              rw [List.drop_eq_getElem_cons hltj, List.map_cons] at this
              rw [Hid, List.append_assoc]
              exact this
            have hacc : acc2.length ≤ 4096 := by
              have h1 := congrArg List.length HE2.out
              rw [List.length_append] at h1
              have := HF2L.out
              omega
            have HRT := Lib.hid (rd_own hv2)
            generalize rest[j] = T at *
            subst hAr
            clear hv1 hv2 hrd HE2 hb
            go_upto_region 11 with (fail)
            have x0 := fun y : Xt wr => y.cell e1
            have x1 := fun y : Xt wr => y.cell e2
            refine wp_region_eager [12, 13] (fun w' => ∃ x : Xt wr, w' = x.1) (by kernel_rfl) ⟨⟨wr.drew, (Below.refl _ _).drew⟩, rfl⟩ ?_
            refine wpE_reads [0, 1, 2, 3, 4, 6, 7, 8, 9] 5 rfl (by kernel_rfl) ?_
            simp only [opsAt_nil, opsAt_cons, consOpt_some, List.getElem?_toArray, List.getElem?_cons_zero, List.getElem?_cons_succ]
            repeat (go_big_quiet_step (fail))
            refine wpQuiet_nil ?_
            have hbd : Below wr.heap.size wr wr.drew := (Below.refl _ _).drew
            show wpE _ _ _ _ _ _ _ _ _ wr.drew
            clear x0 x1 e1
            generalize wr.drew = wd at *
            -- the slice of one number
            refine wpE_one (i := 5) rfl (by kernel_rfl) rfl ?_
            unfold wpMid
            simp only [opsAt_nil, opsAt_cons, consOpt_some, List.getElem?_toArray, List.getElem?_cons_zero, List.getElem?_cons_succ]
            go_wp2
            have hb2 : Below wr.heap.size wr (wd.alloc (.cells #[.int .i64 x] 3)) := hbd.alloc hbd.size _
            have own2 : (wd.alloc (.cells #[.int .i64 x] 3)).ownsRow w.heap.size 3 1 (.slice (some ⟨wd.heap.size, 0, none⟩) 1 1) 1 [.int .i64 x] := ⟨rfl, .inr ⟨wd.heap.size, 1, #[Value.int IntKind.i64 x], rfl, by have := hbd.size; omega, by rw [heapq_alloc, if_pos rfl], by omega, by simp only [maxLen]; omega, rfl, rfl⟩⟩
            have hg2 : wr.heap.size ≤ wd.heap.size := hbd.size
            generalize wd.alloc (.cells #[.int .i64 x] 3) = wz at *
            generalize wd.heap.size = gz at *
            refine onlyNormal_mk ⟨⟨⟨_, hb2⟩, rfl⟩, ?_⟩
            -- the rest of the set behind it
            refine wpE_one (i := 10) rfl (by kernel_rfl) rfl ?_
            unfold wpMid
            simp only [opsAt_nil, opsAt_cons, consOpt_some, List.getElem?_toArray, List.getElem?_cons_zero, List.getElem?_cons_succ]
            go_wp2_with (at_builtin; refine stp ?_)
            unfold Stp
            refine wpList_append_on _ rfl _ _ 39 rfl w.heap.size 3 i1 _ 1 8 Tryd.underlying39 hi1 hy0 hy1 hy2 rfl (by omega) gz 1 1 [.int .i64 x] rfl own2 wr.heap.size Aj T.length cj (intCells T) rfl (by simp [intCells]) (HRT.out.below hb2) (intCells_one T) (by simp only [maxLen]; omega) (by omega) (by have := hb2.size; omega) ?_
            intro g1 cap1 w3 hown3 hgrow3 hat3
            have hb3 : Below wr.heap.size wr w3 := hb2.grown hgrow3 hb2.size (fun k hk => by rw [← Option.some.inj hk]; exact hg2)
            have hg3 : wr.heap.size ≤ g1 := by have := hb2.size; omega
            have OWN3 := Lib.hid hown3
            clear hown3 hgrow3 hat3 own2 hb2 hg2
            go_wp2
            refine onlyNormal_mk ⟨⟨⟨_, hb3⟩, rfl⟩, ?_⟩
            refine wpE_one (i := 11) rfl (by kernel_rfl) rfl ?_
            unfold wpMid
            simp only [opsAt_nil, opsAt_cons, consOpt_some, List.getElem?_toArray, List.getElem?_cons_zero, List.getElem?_cons_succ]
            go_wp2
            have hb4 : Below wr.heap.size wr (w3.alloc (.cells #[.slice (some ⟨g1, 0, none⟩) (1 + T.length) cap1] 39)) := hb3.alloc hb3.size _
            have k4 : (w3.alloc (.cells #[.slice (some ⟨g1, 0, none⟩) (1 + T.length) cap1] 39)).cell? ⟨w3.heap.size, 0, none⟩ = some (.slice (some ⟨g1, 0, none⟩) (1 + T.length) cap1) := (cell_of_row _ _ 0 _ _ _ (by rw [heapq_alloc, if_pos rfl])).trans rfl
            have OWN4 : Hid ((w3.alloc (.cells #[.slice (some ⟨g1, 0, none⟩) (1 + T.length) cap1] 39)).ownsRow w.heap.size 3 1 (.slice (some ⟨g1, 0, none⟩) (1 + T.length) cap1) (1 + T.length) ([.int .i64 x] ++ intCells T)) := OWN3.out.alloc _
            have hg4 : wr.heap.size ≤ w3.heap.size := hb3.size
            clear OWN3 hb3
            generalize w3.alloc (.cells #[.slice (some ⟨g1, 0, none⟩) (1 + T.length) cap1] 39) = w4 at *
            generalize w3.heap.size = g4 at *
            refine onlyNormal_mk ⟨⟨⟨_, hb4⟩, rfl⟩, ?_⟩
            refine wpE_tail rfl (by kernel_rfl) ?_
            simp only [opsAt_nil, opsAt_cons, consOpt_some, List.getElem?_toArray, List.getElem?_cons_zero, List.getElem?_cons_succ]
            go_wp2_with (at_builtin; refine stp ?_)
            unfold Stp
            refine wpList_append_lies _ rfl _ _ 157 rfl w.heap.size 39 i9 _ 1 24 Tryd.underlying157 hi9 hz0 hz1 hz2 rfl (by omega) (.slice Av acc2.length cv) acc2.length hs2 rfl (ownsRow_below HOWN.out hb4) ⟨g4, 0, none⟩ 1 1 [.slice (some ⟨g1, 0, none⟩) (1 + T.length) cap1] rfl rfl (news1 k4) (by simp [Value.oneCell']) (by omega) (by simp only [maxLen]; omega) (by omega) (by have := hb4.size; omega) _ rfl ?_
            intro gg cap2 w5 hown5 hgrow5 hat5 hlt5
            have hs4 := hb4.size
            have hown4 := ownsRow_below HOWN.out hb4
            have hk3 : ∀ (k : Nat) (cur : Array Value), w4.heap[k]? = some (Obj.cells cur 3 (0, 0)) → w5.heap[k]? = w4.heap[k]? := fun k cur hk => hgrow5.block k (lt_of_block hk) (own_ne hown4 hk)
            have SET5 : Hid (SetsAt w5 w.heap.size (hs2 ++ [.slice (some ⟨g1, 0, none⟩) (1 + T.length) cap1]) (acc2 ++ [x :: T])) :=
              ((HSET.out.below hb4).snoc (by rw [List.length_cons, Nat.add_comm T.length 1]; exact OWN4.out)).keep hk3
            have SR5 : Hid (SetsAt w5 w.heap.size hr1 rest) := (HSR.out.below hb4).keep hk3
            have HB5 : Hid (Below w.heap.size w w5) := (HB.out.trans (hb4.mono hszr)).grown hgrow5 (by omega) (fun k hk => (ownBlk hown4 hk).1)
            have hbr : br < wr.heap.size := lt_of_cell e2
            have HAP5 : Hid (∀ b off, (some ⟨br, offr, none⟩ : Option Addr) = some ⟨b, off, none⟩ → (Value.slice (some ⟨gg, 0, none⟩) (acc2.length + 1) cap2).ownBlock ≠ some b) := by
              intro b off hb he
              simp only [Option.some.injEq, Addr.mk.injEq, and_true] at hb
              obtain ⟨rfl, rfl⟩ := hb
              have he' : gg = br := by simpa [Value.ownBlock] using he
              rcases hat5 with h5 | h5
              · exact HAP.out br offr rfl (he' ▸ h5)
              · omega
            have HRD5 : Hid (Rd w5 w5.heap.size (some ⟨br, offr, none⟩) hr1) := by
              intro k u hk
              obtain ⟨b', o', he, hlt', hc⟩ := (HRD.out.below hb4) k u hk
              simp only [Option.some.injEq, Addr.mk.injEq, and_true] at he
              obtain ⟨rfl, rfl⟩ := he
              refine ⟨br, offr, rfl, by have := hgrow5.size; omega, ?_⟩
              rw [hgrow5.cell_far ⟨br, offr + k, none⟩ (by simp only; omega) (fun he => HAP.out br offr rfl he.symm)]
              exact hc
            have HOWN5 := Lib.hid hown5
            clear hown5 hgrow5 hat5 hlt5 hown4 hk3 hb4 k4 OWN4 HOWN HSET HSR HB HAP HRD e2
            go_wp2
            refine onlyNormal_mk ?_
            go_wp2
            go_roundw
            case rel => exact ⟨j + 1, acc2 ++ [x :: T], _, by omega, by go_num, by simpa using HOWN5.out, SET5.out, HE3.out, HRD5.out, SR5.out, HAP5.out, HB5.out⟩
            case measure => simp [intOf]; omega
          · obtain rfl : j = rest.length := by omega
            have HE3 : Hid (acc2 = F2) := by
              have := HE2.out
              rw [List.drop_length, List.map_nil, List.append_nil] at this
              exact this
            have HE4 : Hid (acc2 ++ setsZ (l.drop (i + 1)) (k + 1) = F) := by
              rw [Hid, HE3.out]
              exact HE1.out
            clear hrd hb HE3 HE2 HRD HAP HSR
            go_wp2
            go_roundw
            case rel => exact ⟨i + 1, acc2, hs2, by omega, by go_num, HOWN.out, HSET.out, HE4.out, HB.out⟩
            case measure => simp [intOf]; omega
    · obtain rfl : i = n := by omega
      have hd : l.drop i = [] := by rw [List.drop_eq_nil_iff, HL.out]; exact Nat.le_refl _
      have HE1 : Hid (acc = F) := by
        have := HE.out
        rw [hd, setsZ, List.append_nil] at this
        exact this
      have hb := HB.out
      have hown := HOWN.out
      have hset := HSET.out
      clear hd HE
      go_wp2
      go_ret
      refine ⟨_, _, hs, by rw [← HE1.out]; rfl, rd_own hown, HE1.out ▸ hset, ?_, hb⟩
      intro b off hbo
      subst hbo
      exact (ownBlk hown rfl).1

theorem sets_any : ∀ (k : Nat), k ≤ 1000 → SetsAll k
  | 0, _ => sets_zero
  | k + 1, h => sets_succ k (by omega) (sets_any k (by omega))
end Go.Proofs.YtmcjnfghlpnghaaDoor

namespace Go.Proofs.YtmcjnfghlpnghaaDoor
open Go.RowKit

def IntsPostC (w : World) (l : List Int) (n : Nat) (e : Ending) (w' : World) : Prop :=
  ∃ A c, e = .returned (.slice A n c) ∧ n ≤ c ∧ Rd w' w'.heap.size A (intCells l) ∧ Below w.heap.size w w'
set_option maxRecDepth 100000 in
set_option maxHeartbeats 4000000 in
theorem numbersC_any (w : World) (n : Nat) (hn : n ≤ 1000) : Calls Tryd.prog 131 #[.int .i64 n] w (IntsPostC w (numsK n) n) := by
  obtain ⟨i1, hi1, hy0, hy1, hy2⟩ := info_parts info3
  go_enter Tryd.func131, Tryd.ntmps131
  go_wp2
  go_loopw [3, 4] (fun u3 u4 wr => NumsRel w n u3 u4 wr) (fun _ u4 _ => n - (intOf u4).toNat)
  case atStart => exact ⟨0, Nat.zero_le _, rfl, ⟨rfl, .inl ⟨rfl, rfl⟩⟩, Below.refl _ _⟩
  case round =>
    obtain ⟨k, hk, rfl, hown, hb⟩ := hrel
    have HOWN := Lib.hid hown
    obtain ⟨Au, cu, rfl⟩ := rowForm hown
    have HBW := Lib.hid hb
    have hsz := hb.size
    clear hb hown
    by_cases hlt : k < n
    · go_wp2_with (at_builtin; refine stp ?_)
      unfold Stp
      refine wpList_append_lies _ rfl _ _ 39 rfl w.heap.size 3 i1 _ 1 8 Tryd.underlying39 hi1 hy0 hy1 hy2 rfl (by omega) (.slice Au k cu) k (intCells (numsK k)) rfl (HOWN.out.alloc _) ⟨wr.heap.size, 0, none⟩ 1 1 [.int .i64 (k : Int)] rfl rfl (news1 (by simp)) (by simp [Value.oneCell']) (by omega) (by simp only [maxLen]; omega) (by omega) (by simp; omega) _ rfl ?_
      intro gg cap w3 hown1 hgrow hat hlt9
      have hb9 : Below w.heap.size w w3 := (HBW.out.alloc hsz _).grown hgrow (by simp; omega) (fun k hk => (ownBlk HOWN.out hk).1)
      have HOWN1 := Lib.hid hown1
      have HB9 := Lib.hid hb9
      clear hown1 hgrow hat hlt9 hb9
      go_wp2
      go_roundw
      case rel => exact ⟨k + 1, by omega, by go_num, (by rw [numsK_succ]; simpa [intCells] using HOWN1.out), HB9.out⟩
      case measure => simp [intOf]; omega
    · obtain rfl : k = n := by omega
      go_wp2
      go_ret
      exact ⟨_, _, rfl, own_cap HOWN.out, rd_own HOWN.out, HBW.out⟩

/-- the sets of one size as values -/
theorem numsK_sets (n k : Nat) : setsZ (numsK n) k = (setsM (List.range n) k).map fun T => T.map fun (i : Nat) => (i : Int) := by
  unfold numsK
  exact setsZ_cast _ k

def RefFewPost (w : World) (o : Option (List Nat)) (x : Ending) (w' : World) : Prop :=
  ∃ v, x = .returned (.tuple #[v, .bool o.isSome]) ∧ BestAt w' o v ∧ Below w.heap.size w w'

/-- the sets from a size on, one by one -/
def fromSize (n s : Nat) : List (List Nat) := (List.range' s (n + 1 - s)).flatMap fun k => setsM (List.range n) k
def SizeRel (w0 : World) (l : List Dep) (L most : Int) (n : Nat) (R : Option (List Nat)) (u6 : Value) (wr : World) : Prop :=
  ∃ s : Nat, 1 ≤ s ∧ s ≤ n + 1 ∧ u6 = .int .i64 s ∧ (fromSize n s).find? (okDep l L most) = R ∧ Below w0.heap.size w0 wr
def SetRel (wq : World) (l : List Dep) (L most : Int) (xss : List (List Nat)) (rest R : Option (List Nat)) (u8 : Value) (wr : World) : Prop :=
  ∃ j : Nat, j ≤ xss.length ∧ u8 = .int .i64 j ∧ ((xss.drop j).find? (okDep l L most)).or rest = R ∧ Below wq.heap.size wq wr
theorem fromSize_cons {n s : Nat} (h : s ≤ n) : fromSize n s = setsM (List.range n) s ++ fromSize n (s + 1) := by
  unfold fromSize
  rw [show n + 1 - s = (n + 1 - (s + 1)) + 1 by omega, List.range'_succ, List.flatMap_cons]
theorem fromSize_end (n : Nat) : fromSize n (n + 1) = [] := by simp [fromSize]
theorem fromSize_one (n : Nat) : fromSize n 1 = refSets n := by
  unfold fromSize refSets
  rw [show n + 1 - 1 = n by omega, List.range'_eq_map_range, List.flatMap_map]
  congr 1
  funext k
  simp [Nat.add_comm]
theorem numsK_each {n k : Nat} {T : List Nat} (h : T ∈ setsM (List.range n) k) : T.length = k ∧ ∀ i ∈ T, i < n := by
  obtain ⟨h1, h2⟩ := (setsM_mem _ _ _).1 h
  exact ⟨h2, fun i hi => by simpa using h1.subset hi⟩
theorem nat_cast_cells (T : List Nat) : intCells (T.map fun (i : Nat) => (i : Int)) = natCells T := by simp [natCells, intCells, Function.comp]

set_option maxRecDepth 100000 in
set_option maxHeartbeats 16000000 in
theorem refFewest_any (w : World) (B : Nat) (L most : Int) (A : Option Addr) (n c : Nat) (l : List Dep) (hl : l.length = n) (h : Rd w B A (depCells l)) (hB : B ≤ w.heap.size) (hn : n ≤ 5)
    (h0 : rescueM L l = 0) (hp : placeE most = 0) (R : Option (List Nat)) (hR : (refSets n).find? (okDep l L most) = R) :
    Calls Tryd.prog 74 #[.agg #[.int .i64 L, .slice A n c], .int .i64 most] w (RefFewPost w R) := by
  obtain ⟨⟨hL0, hL1⟩, hn0, _, hok⟩ := rescueM_ok h0
  rw [hl] at hn0
  obtain ⟨hmost0, hmost1⟩ := placeE_zero hp
  have hb0 : Below w.heap.size w (w.alloc (.cells #[.int .i64 L, .slice A n c] 107)) := (Below.refl _ _).alloc (Nat.le_refl _) _
  have k0 : (w.alloc (.cells #[.int .i64 L, .slice A n c] 107)).heap[w.heap.size]? = some (.cells #[.int .i64 L, .slice A n c] 107 (0, 0)) := by rw [heapq_alloc, if_pos rfl]
  have c0 : (w.alloc (.cells #[.int .i64 L, .slice A n c] 107)).cell? ⟨w.heap.size, 0, none⟩ = some (.int .i64 L) := (cell_of_row _ _ 0 _ _ _ k0).trans rfl
  have c1 : (w.alloc (.cells #[.int .i64 L, .slice A n c] 107)).cell? ⟨w.heap.size, 1, none⟩ = some (.slice A n c) := (cell_of_row _ _ 1 _ _ _ k0).trans rfl
  have hr0 := h.below (hb0.mono hB)
  have HL := Lib.hid hl
  have HOK := Lib.hid hok
  have HB := Lib.hid hb0
  have HR := Lib.hid (show (fromSize n 1).find? (okDep l L most) = R from fromSize_one n ▸ hR)
  have hs0 := hb0.size
  have hB0 := Nat.le_trans hB hs0
  clear h hl hb0 k0 h0 hp hok hR
  go_enter Tryd.func74, Tryd.ntmps74
  go_upto_region 1 with (fail)
  generalize w.alloc (.cells #[.int .i64 L, .slice A n c] 107) = w0 at *
  have C0 := Lib.hid c0
  have C1 := Lib.hid c1
  go_wp2
  go_loopw [6] (fun u6 wr => SizeRel w0 l L most n R u6 wr) (fun u6 _ => n + 1 - (intOf u6).toNat)
  case atStart => exact ⟨1, by omega, by omega, rfl, HR.out, Below.refl _ _⟩
  case round =>
    clear c0 c1
    obtain ⟨s, hs1, hs2, rfl, he, hb⟩ := hrel
    have HE := Lib.hid he
    have HBK := Lib.hid hb
    have c0 := kept hb C0.out
    have c1 := kept hb C1.out
    have hr := hr0.below (hb.mono hB0)
    have hsz := hb.size
    clear hb he
    by_cases hlt : s ≤ n
    · obtain ⟨rest, hrest⟩ : ∃ r, (fromSize n (s + 1)).find? (okDep l L most) = r := ⟨_, rfl⟩
      have HE1 : Hid (((setsM (List.range n) s).find? (okDep l L most)).or rest = R) := by
        have := HE.out
        rw [fromSize_cons hlt, List.find?_append, hrest] at this
        exact this
      have HREST := Lib.hid hrest
      have hxl : (setsM (List.range n) s).length ≤ 4096 := by
        have h1 := setsZ_len (numsK n) s
        rw [numsK_sets, List.length_map, numsK_len] at h1
        exact Nat.le_trans h1 (Nat.le_trans (Nat.pow_le_pow_right (by omega) (show n ≤ 12 by omega)) (by decide))
      have heach : ∀ T ∈ setsM (List.range n) s, T.length = s ∧ ∀ i ∈ T, i < n := fun T hT => numsK_each hT
      have NC := numbersC_any wr n (by omega)
      have SC := fun (W : World) (B1 : Nat) (A1 : Option Addr) (c1 : Nat) (h2 : n ≤ c1) (h3 : Rd W B1 A1 (intCells (numsK n))) (h4 : B1 ≤ W.heap.size) => sets_any s (by omega) W B1 A1 n c1 (numsK n) (numsK_len n) (by omega) h2 h3 h4
      simp only [numsK_sets] at SC
      generalize setsM (List.range n) s = xss at *
      have HXL := Lib.hid hxl
      have HEACH := Lib.hid heach
      clear hrest hxl heach HE
      go_upto_region 5 with (go_at_call 131; refine NC.mono ?_; rintro e w1 ⟨An, cn, rfl, hcn, hrn, hb1⟩)
      refine (SC w1 w1.heap.size An cn hcn hrn (Nat.le_refl _)).mono ?_
      rintro e w2 ⟨Ar, cr, hs, rfl, hrd, hset, _, hb2⟩
      have hb12 : Below wr.heap.size wr w2 := hb1.trans (hb2.mono hb1.size)
      replace c0 := kept hb12 c0
      replace c1 := kept hb12 c1
      have hr2 := hr.below (hb12.mono (Nat.le_trans hB0 hsz))
      have HBK2 := Lib.hid (HBK.out.trans (hb12.mono hsz))
      have hsz2 := Nat.le_trans hsz hb12.size
      have HRD := Lib.hid hrd
      have HSET := Lib.hid hset
      have C02 := Lib.hid c0
      have C12 := Lib.hid c1
      clear hb1 hb2 hb12 hr hrn hcn NC SC hrd hset HBK
      rw [List.length_map]
      go_wp2
      go_loopw [8] (fun u8 wr => SetRel w2 l L most xss rest R u8 wr) (fun u8 _ => xss.length - (intOf u8).toNat)
      case atStart => exact ⟨0, Nat.zero_le _, rfl, by rw [List.drop_zero]; exact HE1.out, Below.refl _ _⟩
      case round =>
        clear c0 c1 HE1
        obtain ⟨j, hj, rfl, he, hb⟩ := hrel
        have HE := Lib.hid he
        have HBJ := Lib.hid hb
        have c0 := kept hb C02.out
        have c1 := kept hb C12.out
        have hr := hr2.below (hb.mono (Nat.le_trans hB0 hsz2))
        have hszj := hb.size
        have hrdj := (HRD.out.below hb).mono hb.size
        have hsetj := HSET.out.below hb
        have hxl := HXL.out
        clear hb he
        by_cases hltj : j < xss.length
        · obtain ⟨v, hv1, hv2⟩ := hsetj.2 j (xss[j].map fun (i : Nat) => (i : Int)) (by rw [List.getElem?_map, List.getElem?_eq_getElem hltj]; rfl)
          obtain ⟨bh, oh, hAr, _, e2⟩ := hrdj.at_ hv1
          obtain ⟨hTs, hTi⟩ := HEACH.out xss[j] (List.getElem_mem hltj)
          have HD : Hid (((xss[j] :: xss.drop (j + 1)).find? (okDep l L most)).or rest = R) := by
            rw [Hid, ← List.drop_eq_getElem_cons hltj]
            exact HE.out
          generalize xss[j] = T at *
          rw [nat_cast_cells, List.length_map, hTs] at hv2
          obtain ⟨gT, cT, rfl, _, _⟩ := hv2.form (by omega)
          have hrT := rd_own hv2
          subst hAr
          have HRT := Lib.hid hrT
          obtain ⟨⟨o1, o2⟩, hom⟩ : ∃ om, worstM l L T = om := ⟨_, rfl⟩
          have HOK2 : Hid (okDep l L most T = decide (o2 ≤ 2 * most)) := by rw [Hid, okDep, hom]
          have RW := fun (W : World) (B1 : Nat) (h1 : Rd W B1 A (depCells l)) (h2 : Rd W B1 (some ⟨gT, 0, none⟩) (natCells T)) (h3 : B1 ≤ W.heap.size) => refWorst_any W B1 L A (some ⟨gT, 0, none⟩) n c s cT l T HL.out hTs h1 h2 h3 ⟨hL0, hL1⟩ (fun d hd => (HOK.out d hd).1) hTi (by omega) (by omega)
          simp only [hom] at RW
          clear hom hv1 hv2 hrdj hsetj hrT HE
          have HTS := Lib.hid hTs
          clear hTi hTs
          go_upto_region 8 with (fail)
          have x0 := fun y : Xt wr => y.cell c0
          have x1 := fun y : Xt wr => y.cell c1
          have x2 := fun y : Xt wr => y.cell e2
          refine wp_region_eager [9] (fun w' => ∃ x : Xt wr, w' = x.1) (by kernel_rfl) ⟨⟨wr.drew, (Below.refl _ _).drew⟩, rfl⟩ ?_
          refine wpE_reads [0, 1, 2, 3, 4, 7, 8] 3 rfl (by kernel_rfl) ?_
          simp only [opsAt_nil, opsAt_cons, consOpt_some, List.getElem?_toArray, List.getElem?_cons_zero, List.getElem?_cons_succ]
          repeat (go_big_quiet_step (fail))
          refine wpQuiet_nil ?_
          have hbd : Below wr.heap.size wr wr.drew := (Below.refl _ _).drew
          show wpE _ _ _ _ _ _ _ _ _ wr.drew
          have c0d := kept hbd c0
          have c1d := kept hbd c1
          have e2d := kept hbd e2
          have RWD := RW wr.drew wr.drew.heap.size ((hr.below (hbd.mono (Nat.le_trans (Nat.le_trans hB0 hsz2) hszj))).mono (Nat.le_trans (Nat.le_trans (Nat.le_trans hB0 hsz2) hszj) hbd.size)) ((HRT.out.below hbd).mono hbd.size) (Nat.le_refl _)
          clear x0 x1 x2 c0 c1 e2 RW
          generalize wr.drew = wd at *
          refine wpE_one (i := 5) rfl (by kernel_rfl) rfl ?_
          unfold wpMid
          simp only [opsAt_nil, opsAt_cons, consOpt_some, List.getElem?_toArray, List.getElem?_cons_zero, List.getElem?_cons_succ]
          go_wp2_with (go_at_call 73; refine RWD.mono ?_; rintro e w5 ⟨rfl, hb5⟩)
          have hbD : Below wr.heap.size wr w5 := hbd.trans (hb5.mono hbd.size)
          have c0 := kept hb5 c0d
          have c1 := kept hb5 c1d
          have e2 := kept hb5 e2d
          clear RWD c0d c1d e2d hb5 hbd
          refine onlyNormal_mk ⟨⟨⟨_, hbD⟩, rfl⟩, ?_⟩
          refine wpE_one (i := 6) rfl (by kernel_rfl) rfl ?_
          unfold wpMid
          simp only [opsAt_nil, opsAt_cons, consOpt_some, List.getElem?_toArray, List.getElem?_cons_zero, List.getElem?_cons_succ]
          have qi := run_index1 o1 o2
          go_wp2
          refine onlyNormal_mk ⟨⟨⟨_, hbD⟩, rfl⟩, ?_⟩
          refine wpE_tail rfl (by kernel_rfl) ?_
          simp only [opsAt_nil, opsAt_cons, consOpt_some, List.getElem?_toArray, List.getElem?_cons_zero, List.getElem?_cons_succ]
          by_cases hle : o2 ≤ 2 * most
          · have HEY : Hid (R = some T) := by
              have := HD.out
              rw [List.find?_cons_of_pos (by rw [HOK2.out]; exact decide_eq_true hle)] at this
              exact this.symm
            have HFIN := Lib.hid (HB.out.trans ((HBK2.out.trans ((HBJ.out.trans (hbD.mono hszj)).mono hsz2)).mono hs0))
            have HRT5 := Lib.hid ((HRT.out.below hbD).mono hbD.size)
            clear hbD
            go_wp2
            refine onlyNormal_mk ?_
            go_wp2
            go_ret2
            exact ⟨.slice (some ⟨gT, 0, none⟩) s cT, by rw [HEY.out]; rfl, by rw [HEY.out]; exact ⟨gT, cT, by rw [HTS.out], HRT5.out⟩, HFIN.out⟩
          · have HEY : Hid (((xss.drop (j + 1)).find? (okDep l L most)).or rest = R) := by
              have := HD.out
              rw [List.find?_cons_of_neg (by rw [HOK2.out]; simpa using hle)] at this
              exact this
            have HBD := Lib.hid (HBJ.out.trans (hbD.mono hszj))
            clear hbD
            go_wp2
            refine onlyNormal_mk ?_
            go_wp2
            go_roundw
            case rel => exact ⟨j + 1, by omega, by go_num, HEY.out, HBD.out⟩
            case measure => simp [intOf]; omega
        · have HEY : Hid ((fromSize n (s + 1)).find? (okDep l L most) = R) := by
            have := HE.out
            rw [List.drop_eq_nil_iff.2 (by omega)] at this
            rw [Hid, HREST.out]
            exact this
          clear hrdj hsetj
          go_wp2
          go_roundw
          case rel => exact ⟨s + 1, by omega, by omega, by go_num, HEY.out, HBK2.out.trans (HBJ.out.mono hsz2)⟩
          case measure => simp [intOf]; omega
    · have HEY : Hid (R = none) := by
        have := HE.out
        rw [show s = n + 1 by omega, fromSize_end] at this
        exact this.symm
      have HFIN := Lib.hid (HB.out.trans (HBK.out.mono hs0))
      go_wp2
      go_ret2
      exact ⟨.slice none 0 0, by rw [HEY.out]; rfl, by rw [HEY.out]; rfl, HFIN.out⟩
end Go.Proofs.YtmcjnfghlpnghaaDoor

namespace Go.Proofs.YtmcjnfghlpnghaaDoor
open Go.RowKit

/-- two numbers put into a block of their own -/
theorem box2 (w : World) (x y : Int) : (w.alloc (.cells #[.int .i64 x, .int .i64 y] 108)).cell? ⟨w.heap.size, 0, none⟩ = some (.int .i64 x) ∧ (w.alloc (.cells #[.int .i64 x, .int .i64 y] 108)).cell? ⟨w.heap.size, 1, none⟩ = some (.int .i64 y) ∧
    Below w.heap.size w (w.alloc (.cells #[.int .i64 x, .int .i64 y] 108)) := by
  have kz : (w.alloc (.cells #[.int .i64 x, .int .i64 y] 108)).heap[w.heap.size]? = some (.cells #[.int .i64 x, .int .i64 y] 108 (0, 0)) := by rw [heapq_alloc, if_pos rfl]
  exact ⟨(cell_of_row _ _ 0 _ _ _ kz).trans rfl, (cell_of_row _ _ 1 _ _ _ kz).trans rfl, (Below.refl _ _).alloc (Nat.le_refl _) _⟩
theorem eq_int (d : Nat) (x : Int) (W : World) : Sem.run Tryd.prog (Op.equalIn (d + 1) 3 (.int .i64 x) (.int .i64 x)) W = .ok true W := by
  simp [Op.equalIn, run_underlying Tryd.underlying3]
theorem eq2_gen (d : Nat) (a b : Int) (W : World) : Sem.run Tryd.prog (Op.equalIn (d + 1 + 1) 108 (.agg #[.int .i64 a, .int .i64 b]) (.agg #[.int .i64 a, .int .i64 b])) W = .ok true W := by
  have h := eq_int d
  have p0 : ∀ W, Sem.run Tryd.prog (part 3 #[Value.int IntKind.i64 a, Value.int IntKind.i64 b] 0) W = .ok (.int .i64 a) W := fun W => by kernel_rfl
  have p1 : ∀ W, Sem.run Tryd.prog (part 3 #[Value.int IntKind.i64 a, Value.int IntKind.i64 b] 1) W = .ok (.int .i64 b) W := fun W => by kernel_rfl
  rw [Op.equalIn]
  simp [run_underlying Tryd.underlying108, Tryd.sizeOf3, List.range', h, p0, p1, Result.andThen]
theorem run_eq2 (a b : Int) (W : World) : Sem.run Tryd.prog (Op.equalIn 10000 108 (.agg #[.int .i64 a, .int .i64 b]) (.agg #[.int .i64 a, .int .i64 b])) W = .ok true W := by
  exact eq2_gen 9998 a b W

set_option maxRecDepth 100000 in
set_option maxHeartbeats 16000000 in
theorem CareRescues_all (w : World) (L : Int) (A D : Option Addr) (n c md e : Nat) (l : List Dep) (ds : List Int) (td : Int) (hk : KindsAt w) (hl : l.length = n) (hm : ds.length = md) (hr : Rd w w.heap.size A (depCells l)) (hd : Rd w w.heap.size D (intCells ds)) :
    Calls Tryd.prog 13 #[.agg #[.int .i64 L, .slice A n c], .slice D md e, .int .i64 td] w (AwakePost w) := by
  have hb0 : Below w.heap.size w (w.alloc (.cells #[.int .i64 L, .slice A n c] 107)) := (Below.refl _ _).alloc (Nat.le_refl _) _
  replace hr := hr.below hb0
  replace hd := hd.below hb0
  have hs : w.heap.size ≤ (w.alloc (.cells #[.int .i64 L, .slice A n c] 107)).heap.size := hb0.size
  have k0 : (w.alloc (.cells #[.int .i64 L, .slice A n c] 107)).heap[w.heap.size]? = some (.cells #[.int .i64 L, .slice A n c] 107 (0, 0)) := by rw [heapq_alloc, if_pos rfl]
  have a0 : (w.alloc (.cells #[.int .i64 L, .slice A n c] 107)).cell? ⟨w.heap.size, 0, none⟩ = some (.int .i64 L) := (cell_of_row _ _ 0 _ _ _ k0).trans rfl
  have a1 : (w.alloc (.cells #[.int .i64 L, .slice A n c] 107)).cell? ⟨w.heap.size, 1, none⟩ = some (.slice A n c) := (cell_of_row _ _ 1 _ _ _ k0).trans rfl
  have A0 := awake_any _ (hk.below hb0)
  have HB := Lib.hid hb0
  have HL := Lib.hid hl
  have HM := Lib.hid hm
  clear hl hm hb0 k0 hk
  go_enter Tryd.func13, Tryd.ntmps13
  go_upto_region 1 with (fail)
  generalize (w.alloc (.cells #[.int .i64 L, .slice A n c] 107)) = w0 at *
  go_wp2_with fail
  refine (A0).mono ?_
  rintro e w1 ⟨rfl, hb1⟩
  replace a0 := kept hb1 a0
  replace a1 := kept hb1 a1
  replace hr := hr.below (hb1.mono hs)
  replace hd := hd.below (hb1.mono hs)
  replace HB := Lib.hid (HB.out.trans (hb1.mono hs))
  replace hs := Nat.le_trans hs hb1.size
  clear hb1
  clear A0
  by_cases h8 : 8 < md
  · by_cases h5 : 5 < n
    · by_cases h9 : n ≤ 8
      · go_wp2
        go_ret
        exact ⟨rfl, HB.out⟩
      · by_cases h10 : 10 < n
        · go_wp2
          go_ret
          exact ⟨rfl, HB.out⟩
        · go_wp2
          go_ret
          exact ⟨rfl, HB.out⟩
    · go_wp2
      go_ret
      exact ⟨rfl, HB.out⟩
  · by_cases h5 : 5 < n
    · by_cases h9 : n ≤ 8
      · go_wp2
        go_ret
        exact ⟨rfl, HB.out⟩
      · by_cases h10 : 10 < n
        · go_wp2
          go_ret
          exact ⟨rfl, HB.out⟩
        · have hz : rescueM L l ≠ 0 := fun h => by
            have := (rescueM_ok h).2.2.1
            rw [HL.out] at this
            omega
          obtain ⟨er, her⟩ : ∃ er, rescueM L l = er := ⟨_, rfl⟩
          have hEw : wpErr L l ds = er := by rw [wpErr, her, if_neg (by rw [← her]; exact hz)]
          have hEf : firstE [rescueM L l, placeE td] = er := by rw [her, firstE_hd (by rw [← her]; exact hz)]
          have hne : er ≠ 0 := by rw [← her]; exact hz
          have WP := fun W B A1 A3 c1 c3 (h1 : Rd W B A1 (depCells l)) (h2 : Rd W B A3 (intCells ds)) (h3 : B ≤ W.heap.size) => WorstPlace_bad W B L A1 A3 n c1 md c3 l ds HL.out HM.out h1 h2 h3 (by omega) (by omega) er hEw hne
          have FD := fun W B A1 c1 (h1 : Rd W B A1 (depCells l)) (h3 : B ≤ W.heap.size) => FewestDepots_bad W B L td A1 n c1 l HL.out h1 h3 (by omega) er hEf hne
          have RE := fun W B A1 c1 (h1 : Rd W B A1 (depCells l)) (h3 : B ≤ W.heap.size) => RescueErr_any W B L A1 n c1 l HL.out h1 h3
          unfold WPPost at WP
          unfold ErrVal at RE
          rw [her] at RE
          have e1 : (er != 0) = true := bne_iff_ne.2 hne
          have e2 := run_eq2 0 0
          clear her hEw hEf hz
          go_upto_region 5 with fail
          go_wp2_with fail
          refine (CopyRescue_any w1 w.heap.size L A n c l HL.out (by omega) hr hs).mono ?_
          rintro e w2 ⟨A1, c1, rfl, hp1, hb1⟩
          replace a0 := kept hb1 a0
          replace a1 := kept hb1 a1
          replace hr := hr.below (hb1.mono hs)
          replace hd := hd.below (hb1.mono hs)
          replace HB := Lib.hid (HB.out.trans (hb1.mono hs))
          replace hs := Nat.le_trans hs hb1.size
          clear hb1
          go_wp2_with fail
          refine (CopyInts_any w2 w.heap.size D md e ds HM.out (by omega) hd hs).mono ?_
          rintro e w3 ⟨A3, c3, rfl, ht1, hb1⟩
          replace a0 := kept hb1 a0
          replace a1 := kept hb1 a1
          replace hr := hr.below (hb1.mono hs)
          replace hd := hd.below (hb1.mono hs)
          replace hp1 := (hp1.below hb1).mono hb1.size
          replace HB := Lib.hid (HB.out.trans (hb1.mono hs))
          replace hs := Nat.le_trans hs hb1.size
          clear hb1
          go_wp2_with fail
          refine (WP w3 w3.heap.size A1 A3 c1 c3 (hp1) ht1 (Nat.le_refl _)).mono ?_
          rintro e w4 ⟨rfl, hb1⟩
          replace a0 := kept hb1 a0
          replace a1 := kept hb1 a1
          replace hr := hr.below (hb1.mono hs)
          replace hd := hd.below (hb1.mono hs)
          replace hp1 := (hp1.below hb1).mono hb1.size
          replace ht1 := (ht1.below hb1).mono hb1.size
          replace HB := Lib.hid (HB.out.trans (hb1.mono hs))
          replace hs := Nat.le_trans hs hb1.size
          clear hb1
          clear hp1 ht1
          obtain ⟨b0, b1, hb1⟩ := box2 w4 0 0
          go_upto_region 6 with fail
          generalize w4.alloc (.cells #[.int .i64 0, .int .i64 0] 108) = wF at *
          replace a0 := kept hb1 a0
          replace a1 := kept hb1 a1
          replace hr := hr.below (hb1.mono hs)
          replace hd := hd.below (hb1.mono hs)
          replace HB := Lib.hid (HB.out.trans (hb1.mono hs))
          replace hs := Nat.le_trans hs hb1.size
          clear hb1
          go_wp2_with fail
          refine (CopyRescue_any wF w.heap.size L A n c l HL.out (by omega) hr hs).mono ?_
          rintro e w6 ⟨A1, c1, rfl, hp1, hb1⟩
          replace a0 := kept hb1 a0
          replace a1 := kept hb1 a1
          replace b0 := kept hb1 b0
          replace b1 := kept hb1 b1
          replace hr := hr.below (hb1.mono hs)
          replace hd := hd.below (hb1.mono hs)
          replace HB := Lib.hid (HB.out.trans (hb1.mono hs))
          replace hs := Nat.le_trans hs hb1.size
          clear hb1
          go_upto_region 7 with (go_at_call 70; refine (FD w6 w6.heap.size A1 c1 hp1 (Nat.le_refl _)).mono ?_; rintro e w7 ⟨rfl, hb1⟩)
          replace a0 := kept hb1 a0
          replace a1 := kept hb1 a1
          replace b0 := kept hb1 b0
          replace b1 := kept hb1 b1
          replace hr := hr.below (hb1.mono hs)
          replace hd := hd.below (hb1.mono hs)
          replace hp1 := (hp1.below hb1).mono hb1.size
          replace HB := Lib.hid (HB.out.trans (hb1.mono hs))
          replace hs := Nat.le_trans hs hb1.size
          clear hb1
          clear hp1
          go_upto_region 8 with (go_at_call 71; refine (RE w7 w.heap.size A c hr hs).mono ?_; rintro e w8 ⟨rfl, hb1⟩)
          replace a0 := kept hb1 a0
          replace a1 := kept hb1 a1
          replace b0 := kept hb1 b0
          replace b1 := kept hb1 b1
          replace hr := hr.below (hb1.mono hs)
          replace hd := hd.below (hb1.mono hs)
          replace HB := Lib.hid (HB.out.trans (hb1.mono hs))
          replace hs := Nat.le_trans hs hb1.size
          clear hb1
          clear WP FD RE hne
          go_wp2
          go_ret
          exact ⟨rfl, HB.out⟩
    · by_cases hz : rescueM L l ≠ 0
      · obtain ⟨er, her⟩ : ∃ er, rescueM L l = er := ⟨_, rfl⟩
        have hEw : wpErr L l ds = er := by rw [wpErr, her, if_neg (by rw [← her]; exact hz)]
        have hEf : firstE [rescueM L l, placeE td] = er := by rw [her, firstE_hd (by rw [← her]; exact hz)]
        have hne : er ≠ 0 := by rw [← her]; exact hz
        have WP := fun W B A1 A3 c1 c3 (h1 : Rd W B A1 (depCells l)) (h2 : Rd W B A3 (intCells ds)) (h3 : B ≤ W.heap.size) => WorstPlace_bad W B L A1 A3 n c1 md c3 l ds HL.out HM.out h1 h2 h3 (by omega) (by omega) er hEw hne
        have FD := fun W B A1 c1 (h1 : Rd W B A1 (depCells l)) (h3 : B ≤ W.heap.size) => FewestDepots_bad W B L td A1 n c1 l HL.out h1 h3 (by omega) er hEf hne
        have RE := fun W B A1 c1 (h1 : Rd W B A1 (depCells l)) (h3 : B ≤ W.heap.size) => RescueErr_any W B L A1 n c1 l HL.out h1 h3
        unfold WPPost at WP
        unfold ErrVal at RE
        rw [her] at RE
        have e1 : (er != 0) = true := bne_iff_ne.2 hne
        have e2 := run_eq2 0 0
        clear her hEw hEf hz
        go_upto_region 5 with fail
        go_wp2_with fail
        refine (CopyRescue_any w1 w.heap.size L A n c l HL.out (by omega) hr hs).mono ?_
        rintro e w2 ⟨A1, c1, rfl, hp1, hb1⟩
        replace a0 := kept hb1 a0
        replace a1 := kept hb1 a1
        replace hr := hr.below (hb1.mono hs)
        replace hd := hd.below (hb1.mono hs)
        replace HB := Lib.hid (HB.out.trans (hb1.mono hs))
        replace hs := Nat.le_trans hs hb1.size
        clear hb1
        go_wp2_with fail
        refine (CopyInts_any w2 w.heap.size D md e ds HM.out (by omega) hd hs).mono ?_
        rintro e w3 ⟨A3, c3, rfl, ht1, hb1⟩
        replace a0 := kept hb1 a0
        replace a1 := kept hb1 a1
        replace hr := hr.below (hb1.mono hs)
        replace hd := hd.below (hb1.mono hs)
        replace hp1 := (hp1.below hb1).mono hb1.size
        replace HB := Lib.hid (HB.out.trans (hb1.mono hs))
        replace hs := Nat.le_trans hs hb1.size
        clear hb1
        go_wp2_with fail
        refine (WP w3 w3.heap.size A1 A3 c1 c3 (hp1) ht1 (Nat.le_refl _)).mono ?_
        rintro e w4 ⟨rfl, hb1⟩
        replace a0 := kept hb1 a0
        replace a1 := kept hb1 a1
        replace hr := hr.below (hb1.mono hs)
        replace hd := hd.below (hb1.mono hs)
        replace hp1 := (hp1.below hb1).mono hb1.size
        replace ht1 := (ht1.below hb1).mono hb1.size
        replace HB := Lib.hid (HB.out.trans (hb1.mono hs))
        replace hs := Nat.le_trans hs hb1.size
        clear hb1
        clear hp1 ht1
        obtain ⟨b0, b1, hb1⟩ := box2 w4 0 0
        go_upto_region 6 with fail
        generalize w4.alloc (.cells #[.int .i64 0, .int .i64 0] 108) = wF at *
        replace a0 := kept hb1 a0
        replace a1 := kept hb1 a1
        replace hr := hr.below (hb1.mono hs)
        replace hd := hd.below (hb1.mono hs)
        replace HB := Lib.hid (HB.out.trans (hb1.mono hs))
        replace hs := Nat.le_trans hs hb1.size
        clear hb1
        go_wp2_with fail
        refine (CopyRescue_any wF w.heap.size L A n c l HL.out (by omega) hr hs).mono ?_
        rintro e w6 ⟨A1, c1, rfl, hp1, hb1⟩
        replace a0 := kept hb1 a0
        replace a1 := kept hb1 a1
        replace b0 := kept hb1 b0
        replace b1 := kept hb1 b1
        replace hr := hr.below (hb1.mono hs)
        replace hd := hd.below (hb1.mono hs)
        replace HB := Lib.hid (HB.out.trans (hb1.mono hs))
        replace hs := Nat.le_trans hs hb1.size
        clear hb1
        go_upto_region 7 with (go_at_call 70; refine (FD w6 w6.heap.size A1 c1 hp1 (Nat.le_refl _)).mono ?_; rintro e w7 ⟨rfl, hb1⟩)
        replace a0 := kept hb1 a0
        replace a1 := kept hb1 a1
        replace b0 := kept hb1 b0
        replace b1 := kept hb1 b1
        replace hr := hr.below (hb1.mono hs)
        replace hd := hd.below (hb1.mono hs)
        replace hp1 := (hp1.below hb1).mono hb1.size
        replace HB := Lib.hid (HB.out.trans (hb1.mono hs))
        replace hs := Nat.le_trans hs hb1.size
        clear hb1
        clear hp1
        go_upto_region 8 with (go_at_call 71; refine (RE w7 w.heap.size A c hr hs).mono ?_; rintro e w8 ⟨rfl, hb1⟩)
        replace a0 := kept hb1 a0
        replace a1 := kept hb1 a1
        replace b0 := kept hb1 b0
        replace b1 := kept hb1 b1
        replace hr := hr.below (hb1.mono hs)
        replace hd := hd.below (hb1.mono hs)
        replace HB := Lib.hid (HB.out.trans (hb1.mono hs))
        replace hs := Nat.le_trans hs hb1.size
        clear hb1
        clear WP FD RE hne
        go_wp2
        go_ret
        exact ⟨rfl, HB.out⟩
      · have hz : rescueM L l = 0 := Classical.not_not.1 hz
        obtain ⟨⟨hL0, hL1⟩, hn0, hn8, hok⟩ := rescueM_ok hz
        rw [HL.out] at hn0 hn8
        have HOK := Lib.hid hok
        have HZ := Lib.hid hz
        clear hok
        have RE := fun W B A1 c1 (h1 : Rd W B A1 (depCells l)) (h3 : B ≤ W.heap.size) => RescueErr_any W B L A1 n c1 l HL.out h1 h3
        have DE := fun W B A1 A3 c1 c3 (h1 : Rd W B A3 (intCells ds)) (h3 : B ≤ W.heap.size) => DepotsErr_any W B L A1 A3 n c1 md c3 ds HM.out h1 h3 (by omega) (by omega)
        unfold ErrVal at RE DE
        rw [hz] at RE
        clear hz
        by_cases hpz : placeE td = 0
        · obtain ⟨R, hR⟩ : ∃ R, (refSets n).find? (okDep l L td) = R := ⟨_, rfl⟩
          have hR2 : bestGo (okDep l L td) none (careSets n) = R := by rw [fewest_eq (okDep l L td) (by omega)]; exact hR
          have FD := fun W B A1 c1 (h1 : Rd W B A1 (depCells l)) (h3 : B ≤ W.heap.size) => FewestDepots_yes W B L td A1 n c1 l HL.out h1 h3 (by omega) HZ.out hpz R hR2
          have RF := fun W B A1 c1 (h1 : Rd W B A1 (depCells l)) (h3 : B ≤ W.heap.size) => refFewest_any W B L td A1 n c1 l HL.out h1 h3 (by omega) HZ.out hpz R hR
          unfold FewPost at FD
          unfold RefFewPost at RF
          have hRl : ∀ T, R = some T → T.length ≤ 1000 := fun T h => by
            subst h
            have := (set_deps (List.mem_of_find?_eq_some hR)).2.2.1
            omega
          have PE := fun W => PlaceErr_any td W
          rw [hpz] at PE
          clear hR hR2 hpz
          cases R with
          | none =>
            by_cases hdz : depsE n ds = 0
            · obtain ⟨hm0, hgo⟩ : 0 < md ∧ depsGo n (-1) ds = 0 := by
                have h := hdz
                unfold depsE at h
                rw [HM.out] at h
                split at h
                · exact absurd h (by decide)
                · exact ⟨by omega, h⟩
              have hmem := depsGo_mem ds (-1) hgo
              have hnat := nat_of_ints ds (fun d hd => (hmem d hd).1)
              have hm8 : md ≤ 8 := by omega
              have WP := fun W B A1 A3 c1 c3 (h1 : Rd W B A1 (depCells l)) (h2 : Rd W B A3 (intCells ds)) (h3 : B ≤ W.heap.size) => WorstPlace_yes W B L A1 A3 n c1 md c3 l ds HL.out HM.out h1 h2 h3 HZ.out hm0 hgo
              have RW := fun W B A1 A3 c1 c3 (h1 : Rd W B A1 (depCells l)) (h2 : Rd W B A3 (natCells (ds.map Int.toNat))) (h3 : B ≤ W.heap.size) => refWorst_any W B L A1 A3 n c1 md c3 l (ds.map Int.toNat) HL.out (by rw [List.length_map]; exact HM.out) h1 h2 h3 ⟨hL0, hL1⟩ (fun d hd => (HOK.out d hd).1) (by
                intro i hi
                obtain ⟨d, hd, rfl⟩ := List.mem_map.1 hi
                have := hmem d hd
                omega) hm8 hm0
              rw [hnat] at RW
              obtain ⟨⟨o1, o2⟩, hom⟩ : ∃ om, worstM l L (ds.map Int.toNat) = om := ⟨_, rfl⟩
              rw [hom] at WP RW
              unfold WPPost at WP
              unfold WorstPost at RW
              simp only at WP RW
              rw [hdz] at DE
              have e2 := run_eq2 o1 o2
              clear hdz hgo hmem hnat hom
              go_upto_region 5 with fail
              go_wp2_with fail
              refine (CopyRescue_any w1 w.heap.size L A n c l HL.out (by omega) hr hs).mono ?_
              rintro e w2 ⟨A1, c1, rfl, hp1, hb1⟩
              replace a0 := kept hb1 a0
              replace a1 := kept hb1 a1
              replace hr := hr.below (hb1.mono hs)
              replace hd := hd.below (hb1.mono hs)
              replace HB := Lib.hid (HB.out.trans (hb1.mono hs))
              replace hs := Nat.le_trans hs hb1.size
              clear hb1
              go_wp2_with fail
              refine (CopyInts_any w2 w.heap.size D md e ds HM.out (by omega) hd hs).mono ?_
              rintro e w3 ⟨A3, c3, rfl, ht1, hb1⟩
              replace a0 := kept hb1 a0
              replace a1 := kept hb1 a1
              replace hr := hr.below (hb1.mono hs)
              replace hd := hd.below (hb1.mono hs)
              replace hp1 := (hp1.below hb1).mono hb1.size
              replace HB := Lib.hid (HB.out.trans (hb1.mono hs))
              replace hs := Nat.le_trans hs hb1.size
              clear hb1
              go_wp2_with fail
              refine (WP w3 w3.heap.size A1 A3 c1 c3 hp1 ht1 (Nat.le_refl _)).mono ?_
              rintro e w4 ⟨rfl, hb1⟩
              replace a0 := kept hb1 a0
              replace a1 := kept hb1 a1
              replace hr := hr.below (hb1.mono hs)
              replace hd := hd.below (hb1.mono hs)
              replace hp1 := (hp1.below hb1).mono hb1.size
              replace ht1 := (ht1.below hb1).mono hb1.size
              replace HB := Lib.hid (HB.out.trans (hb1.mono hs))
              replace hs := Nat.le_trans hs hb1.size
              clear hb1
              clear hp1 ht1
              obtain ⟨b0, b1, hb1⟩ := box2 w4 o1 o2
              go_upto_region 6 with fail
              generalize w4.alloc (.cells #[.int .i64 o1, .int .i64 o2] 108) = wF at *
              replace a0 := kept hb1 a0
              replace a1 := kept hb1 a1
              replace hr := hr.below (hb1.mono hs)
              replace hd := hd.below (hb1.mono hs)
              replace HB := Lib.hid (HB.out.trans (hb1.mono hs))
              replace hs := Nat.le_trans hs hb1.size
              clear hb1
              go_wp2_with fail
              refine (CopyRescue_any wF w.heap.size L A n c l HL.out (by omega) hr hs).mono ?_
              rintro e w6 ⟨A1, c1, rfl, hp1, hb1⟩
              replace a0 := kept hb1 a0
              replace a1 := kept hb1 a1
              replace b0 := kept hb1 b0
              replace b1 := kept hb1 b1
              replace hr := hr.below (hb1.mono hs)
              replace hd := hd.below (hb1.mono hs)
              replace HB := Lib.hid (HB.out.trans (hb1.mono hs))
              replace hs := Nat.le_trans hs hb1.size
              clear hb1
              go_upto_region 7 with (go_at_call 70; refine (FD w6 w6.heap.size A1 c1 hp1 (Nat.le_refl _)).mono ?_; rintro e w7 ⟨v4, rfl, hbest, hb1⟩; have hv4 : v4 = .slice none 0 0 := hbest; subst hv4)
              clear hbest
              replace a0 := kept hb1 a0
              replace a1 := kept hb1 a1
              replace b0 := kept hb1 b0
              replace b1 := kept hb1 b1
              replace hr := hr.below (hb1.mono hs)
              replace hd := hd.below (hb1.mono hs)
              replace hp1 := (hp1.below hb1).mono hb1.size
              replace HB := Lib.hid (HB.out.trans (hb1.mono hs))
              replace hs := Nat.le_trans hs hb1.size
              clear hb1
              clear hp1
              go_upto_region 8 with (go_at_call 71; refine (RE w7 w.heap.size A c hr hs).mono ?_; rintro e w8 ⟨rfl, hb1⟩)
              replace a0 := kept hb1 a0
              replace a1 := kept hb1 a1
              replace b0 := kept hb1 b0
              replace b1 := kept hb1 b1
              replace hr := hr.below (hb1.mono hs)
              replace hd := hd.below (hb1.mono hs)
              replace HB := Lib.hid (HB.out.trans (hb1.mono hs))
              replace hs := Nat.le_trans hs hb1.size
              clear hb1
              go_upto_region 11 with (go_at_call 72; refine (DE w8 w.heap.size A D c e hd hs).mono ?_; rintro e w9 ⟨rfl, hb1⟩)
              replace a0 := kept hb1 a0
              replace a1 := kept hb1 a1
              replace b0 := kept hb1 b0
              replace b1 := kept hb1 b1
              replace hr := hr.below (hb1.mono hs)
              replace hd := hd.below (hb1.mono hs)
              replace HB := Lib.hid (HB.out.trans (hb1.mono hs))
              replace hs := Nat.le_trans hs hb1.size
              clear hb1
              go_upto_region 14 with fail
              have x0 := fun y : Xt w9 => y.cell a0
              have x1 := fun y : Xt w9 => y.cell a1
              have x2 := fun y : Xt w9 => y.cell b0
              have x3 := fun y : Xt w9 => y.cell b1
              have hbd : Below w9.heap.size w9 w9.drew := (Below.refl _ _).drew
              have RWD := RW w9.drew w9.heap.size A D c e ((hr.below (hbd.mono hs)).mono hs) ((hd.below (hbd.mono hs)).mono hs) hbd.size
              refine wp_region_eager [7, 8] (fun w' => ∃ x : Xt w9, w' = x.1) (by kernel_rfl) ⟨⟨w9.drew, (Below.refl _ _).drew⟩, rfl⟩ ?_
              refine wpE_reads2 [0, 1, 2, 3, 4, 5] 3 rfl (by kernel_rfl) ?_
              simp only [opsAt_nil, opsAt_cons, consOpt_some, List.getElem?_toArray, List.getElem?_cons_zero, List.getElem?_cons_succ]
              repeat (go_big_quiet_step (fail))
              refine wpQuiet_nil ?_
              show wpE _ _ _ _ _ _ _ _ _ w9.drew
              clear x0 x1 x2 x3
              refine wpE_one (i := 6) rfl (by kernel_rfl) rfl ?_
              unfold wpMid
              simp only [opsAt_nil, opsAt_cons, consOpt_some, List.getElem?_toArray, List.getElem?_cons_zero, List.getElem?_cons_succ]
              go_wp2_with (go_at_call 73; refine RWD.mono ?_; rintro e w10 ⟨rfl, hb5⟩)
              have hb1 := hbd.trans (hb5.mono hbd.size)
              clear RWD hb5 hbd
              refine onlyNormal_mk ⟨⟨⟨_, hb1⟩, rfl⟩, ?_⟩
              refine wpE_tail rfl (by kernel_rfl) ?_
              simp only [opsAt_nil, opsAt_cons, consOpt_some, List.getElem?_toArray, List.getElem?_cons_zero, List.getElem?_cons_succ]
              go_wp2
              refine onlyNormal_mk ?_
              replace a0 := kept hb1 a0
              replace a1 := kept hb1 a1
              replace b0 := kept hb1 b0
              replace b1 := kept hb1 b1
              replace hr := hr.below (hb1.mono hs)
              replace hd := hd.below (hb1.mono hs)
              replace HB := Lib.hid (HB.out.trans (hb1.mono hs))
              replace hs := Nat.le_trans hs hb1.size
              clear hb1
              go_upto_region 16 with fail
              go_upto_region 18 with (go_at_call 23; refine (PE _).mono ?_; rintro e w' ⟨rfl, rfl⟩)
              go_wp2_with fail
              refine (RF w10 w.heap.size A c hr hs).mono ?_
              rintro e w11 ⟨v5, rfl, hbest, hb1⟩
              have hv5 : v5 = .slice none 0 0 := hbest
              subst hv5
              clear hbest
              replace a0 := kept hb1 a0
              replace a1 := kept hb1 a1
              replace b0 := kept hb1 b0
              replace b1 := kept hb1 b1
              replace hr := hr.below (hb1.mono hs)
              replace hd := hd.below (hb1.mono hs)
              replace HB := Lib.hid (HB.out.trans (hb1.mono hs))
              replace hs := Nat.le_trans hs hb1.size
              clear hb1
              go_wp2
              go_ret
              exact ⟨rfl, HB.out⟩
            · obtain ⟨er, her⟩ : ∃ er, depsE n ds = er := ⟨_, rfl⟩
              have hEw : wpErr L l ds = er := by rw [wpErr, HZ.out, if_pos rfl, HL.out, her]
              have hne : er ≠ 0 := by rw [← her]; exact hdz
              have WP := fun W B A1 A3 c1 c3 (h1 : Rd W B A1 (depCells l)) (h2 : Rd W B A3 (intCells ds)) (h3 : B ≤ W.heap.size) => WorstPlace_bad W B L A1 A3 n c1 md c3 l ds HL.out HM.out h1 h2 h3 (by omega) (by omega) er hEw hne
              unfold WPPost at WP
              rw [her] at DE
              have e1 : (er != 0) = true := bne_iff_ne.2 hne
              have e3 : (er != er) = false := by simp
              have e2 := run_eq2 0 0
              clear her hEw hdz hne
              go_upto_region 5 with fail
              go_wp2_with fail
              refine (CopyRescue_any w1 w.heap.size L A n c l HL.out (by omega) hr hs).mono ?_
              rintro e w2 ⟨A1, c1, rfl, hp1, hb1⟩
              replace a0 := kept hb1 a0
              replace a1 := kept hb1 a1
              replace hr := hr.below (hb1.mono hs)
              replace hd := hd.below (hb1.mono hs)
              replace HB := Lib.hid (HB.out.trans (hb1.mono hs))
              replace hs := Nat.le_trans hs hb1.size
              clear hb1
              go_wp2_with fail
              refine (CopyInts_any w2 w.heap.size D md e ds HM.out (by omega) hd hs).mono ?_
              rintro e w3 ⟨A3, c3, rfl, ht1, hb1⟩
              replace a0 := kept hb1 a0
              replace a1 := kept hb1 a1
              replace hr := hr.below (hb1.mono hs)
              replace hd := hd.below (hb1.mono hs)
              replace hp1 := (hp1.below hb1).mono hb1.size
              replace HB := Lib.hid (HB.out.trans (hb1.mono hs))
              replace hs := Nat.le_trans hs hb1.size
              clear hb1
              go_wp2_with fail
              refine (WP w3 w3.heap.size A1 A3 c1 c3 hp1 ht1 (Nat.le_refl _)).mono ?_
              rintro e w4 ⟨rfl, hb1⟩
              replace a0 := kept hb1 a0
              replace a1 := kept hb1 a1
              replace hr := hr.below (hb1.mono hs)
              replace hd := hd.below (hb1.mono hs)
              replace hp1 := (hp1.below hb1).mono hb1.size
              replace ht1 := (ht1.below hb1).mono hb1.size
              replace HB := Lib.hid (HB.out.trans (hb1.mono hs))
              replace hs := Nat.le_trans hs hb1.size
              clear hb1
              clear hp1 ht1
              obtain ⟨b0, b1, hb1⟩ := box2 w4 0 0
              go_upto_region 6 with fail
              generalize w4.alloc (.cells #[.int .i64 0, .int .i64 0] 108) = wF at *
              replace a0 := kept hb1 a0
              replace a1 := kept hb1 a1
              replace hr := hr.below (hb1.mono hs)
              replace hd := hd.below (hb1.mono hs)
              replace HB := Lib.hid (HB.out.trans (hb1.mono hs))
              replace hs := Nat.le_trans hs hb1.size
              clear hb1
              go_wp2_with fail
              refine (CopyRescue_any wF w.heap.size L A n c l HL.out (by omega) hr hs).mono ?_
              rintro e w6 ⟨A1, c1, rfl, hp1, hb1⟩
              replace a0 := kept hb1 a0
              replace a1 := kept hb1 a1
              replace b0 := kept hb1 b0
              replace b1 := kept hb1 b1
              replace hr := hr.below (hb1.mono hs)
              replace hd := hd.below (hb1.mono hs)
              replace HB := Lib.hid (HB.out.trans (hb1.mono hs))
              replace hs := Nat.le_trans hs hb1.size
              clear hb1
              go_upto_region 7 with (go_at_call 70; refine (FD w6 w6.heap.size A1 c1 hp1 (Nat.le_refl _)).mono ?_; rintro e w7 ⟨v4, rfl, hbest, hb1⟩; have hv4 : v4 = .slice none 0 0 := hbest; subst hv4)
              clear hbest
              replace a0 := kept hb1 a0
              replace a1 := kept hb1 a1
              replace b0 := kept hb1 b0
              replace b1 := kept hb1 b1
              replace hr := hr.below (hb1.mono hs)
              replace hd := hd.below (hb1.mono hs)
              replace hp1 := (hp1.below hb1).mono hb1.size
              replace HB := Lib.hid (HB.out.trans (hb1.mono hs))
              replace hs := Nat.le_trans hs hb1.size
              clear hb1
              clear hp1
              go_upto_region 8 with (go_at_call 71; refine (RE w7 w.heap.size A c hr hs).mono ?_; rintro e w8 ⟨rfl, hb1⟩)
              replace a0 := kept hb1 a0
              replace a1 := kept hb1 a1
              replace b0 := kept hb1 b0
              replace b1 := kept hb1 b1
              replace hr := hr.below (hb1.mono hs)
              replace hd := hd.below (hb1.mono hs)
              replace HB := Lib.hid (HB.out.trans (hb1.mono hs))
              replace hs := Nat.le_trans hs hb1.size
              clear hb1
              go_upto_region 11 with (go_at_call 72; refine (DE w8 w.heap.size A D c e hd hs).mono ?_; rintro e w9 ⟨rfl, hb1⟩)
              replace a0 := kept hb1 a0
              replace a1 := kept hb1 a1
              replace b0 := kept hb1 b0
              replace b1 := kept hb1 b1
              replace hr := hr.below (hb1.mono hs)
              replace hd := hd.below (hb1.mono hs)
              replace HB := Lib.hid (HB.out.trans (hb1.mono hs))
              replace hs := Nat.le_trans hs hb1.size
              clear hb1
              go_upto_region 16 with fail
              go_upto_region 18 with (go_at_call 23; refine (PE _).mono ?_; rintro e w' ⟨rfl, rfl⟩)
              go_wp2_with fail
              refine (RF w9 w.heap.size A c hr hs).mono ?_
              rintro e w11 ⟨v5, rfl, hbest, hb1⟩
              have hv5 : v5 = .slice none 0 0 := hbest
              subst hv5
              clear hbest
              replace a0 := kept hb1 a0
              replace a1 := kept hb1 a1
              replace b0 := kept hb1 b0
              replace b1 := kept hb1 b1
              replace hr := hr.below (hb1.mono hs)
              replace hd := hd.below (hb1.mono hs)
              replace HB := Lib.hid (HB.out.trans (hb1.mono hs))
              replace hs := Nat.le_trans hs hb1.size
              clear hb1
              go_wp2
              go_ret
              exact ⟨rfl, HB.out⟩
          | some T =>
            by_cases hdz : depsE n ds = 0
            · obtain ⟨hm0, hgo⟩ : 0 < md ∧ depsGo n (-1) ds = 0 := by
                have h := hdz
                unfold depsE at h
                rw [HM.out] at h
                split at h
                · exact absurd h (by decide)
                · exact ⟨by omega, h⟩
              have hmem := depsGo_mem ds (-1) hgo
              have hnat := nat_of_ints ds (fun d hd => (hmem d hd).1)
              have hm8 : md ≤ 8 := by omega
              have WP := fun W B A1 A3 c1 c3 (h1 : Rd W B A1 (depCells l)) (h2 : Rd W B A3 (intCells ds)) (h3 : B ≤ W.heap.size) => WorstPlace_yes W B L A1 A3 n c1 md c3 l ds HL.out HM.out h1 h2 h3 HZ.out hm0 hgo
              have RW := fun W B A1 A3 c1 c3 (h1 : Rd W B A1 (depCells l)) (h2 : Rd W B A3 (natCells (ds.map Int.toNat))) (h3 : B ≤ W.heap.size) => refWorst_any W B L A1 A3 n c1 md c3 l (ds.map Int.toNat) HL.out (by rw [List.length_map]; exact HM.out) h1 h2 h3 ⟨hL0, hL1⟩ (fun d hd => (HOK.out d hd).1) (by
                intro i hi
                obtain ⟨d, hd, rfl⟩ := List.mem_map.1 hi
                have := hmem d hd
                omega) hm8 hm0
              rw [hnat] at RW
              obtain ⟨⟨o1, o2⟩, hom⟩ : ∃ om, worstM l L (ds.map Int.toNat) = om := ⟨_, rfl⟩
              rw [hom] at WP RW
              unfold WPPost at WP
              unfold WorstPost at RW
              simp only at WP RW
              rw [hdz] at DE
              have e2 := run_eq2 o1 o2
              clear hdz hgo hmem hnat hom
              go_upto_region 5 with fail
              go_wp2_with fail
              refine (CopyRescue_any w1 w.heap.size L A n c l HL.out (by omega) hr hs).mono ?_
              rintro e w2 ⟨A1, c1, rfl, hp1, hb1⟩
              replace a0 := kept hb1 a0
              replace a1 := kept hb1 a1
              replace hr := hr.below (hb1.mono hs)
              replace hd := hd.below (hb1.mono hs)
              replace HB := Lib.hid (HB.out.trans (hb1.mono hs))
              replace hs := Nat.le_trans hs hb1.size
              clear hb1
              go_wp2_with fail
              refine (CopyInts_any w2 w.heap.size D md e ds HM.out (by omega) hd hs).mono ?_
              rintro e w3 ⟨A3, c3, rfl, ht1, hb1⟩
              replace a0 := kept hb1 a0
              replace a1 := kept hb1 a1
              replace hr := hr.below (hb1.mono hs)
              replace hd := hd.below (hb1.mono hs)
              replace hp1 := (hp1.below hb1).mono hb1.size
              replace HB := Lib.hid (HB.out.trans (hb1.mono hs))
              replace hs := Nat.le_trans hs hb1.size
              clear hb1
              go_wp2_with fail
              refine (WP w3 w3.heap.size A1 A3 c1 c3 hp1 ht1 (Nat.le_refl _)).mono ?_
              rintro e w4 ⟨rfl, hb1⟩
              replace a0 := kept hb1 a0
              replace a1 := kept hb1 a1
              replace hr := hr.below (hb1.mono hs)
              replace hd := hd.below (hb1.mono hs)
              replace hp1 := (hp1.below hb1).mono hb1.size
              replace ht1 := (ht1.below hb1).mono hb1.size
              replace HB := Lib.hid (HB.out.trans (hb1.mono hs))
              replace hs := Nat.le_trans hs hb1.size
              clear hb1
              clear hp1 ht1
              obtain ⟨b0, b1, hb1⟩ := box2 w4 o1 o2
              go_upto_region 6 with fail
              generalize w4.alloc (.cells #[.int .i64 o1, .int .i64 o2] 108) = wF at *
              replace a0 := kept hb1 a0
              replace a1 := kept hb1 a1
              replace hr := hr.below (hb1.mono hs)
              replace hd := hd.below (hb1.mono hs)
              replace HB := Lib.hid (HB.out.trans (hb1.mono hs))
              replace hs := Nat.le_trans hs hb1.size
              clear hb1
              go_wp2_with fail
              refine (CopyRescue_any wF w.heap.size L A n c l HL.out (by omega) hr hs).mono ?_
              rintro e w6 ⟨A1, c1, rfl, hp1, hb1⟩
              replace a0 := kept hb1 a0
              replace a1 := kept hb1 a1
              replace b0 := kept hb1 b0
              replace b1 := kept hb1 b1
              replace hr := hr.below (hb1.mono hs)
              replace hd := hd.below (hb1.mono hs)
              replace HB := Lib.hid (HB.out.trans (hb1.mono hs))
              replace hs := Nat.le_trans hs hb1.size
              clear hb1
              go_upto_region 7 with (go_at_call 70; refine (FD w6 w6.heap.size A1 c1 hp1 (Nat.le_refl _)).mono ?_; rintro e w7 ⟨v4, rfl, ⟨g4, k4, rfl, hL4⟩, hb1⟩)
              replace a0 := kept hb1 a0
              replace a1 := kept hb1 a1
              replace b0 := kept hb1 b0
              replace b1 := kept hb1 b1
              replace hr := hr.below (hb1.mono hs)
              replace hd := hd.below (hb1.mono hs)
              replace hp1 := (hp1.below hb1).mono hb1.size
              replace HB := Lib.hid (HB.out.trans (hb1.mono hs))
              replace hs := Nat.le_trans hs hb1.size
              clear hb1
              clear hp1
              go_upto_region 8 with (go_at_call 71; refine (RE w7 w.heap.size A c hr hs).mono ?_; rintro e w8 ⟨rfl, hb1⟩)
              replace a0 := kept hb1 a0
              replace a1 := kept hb1 a1
              replace b0 := kept hb1 b0
              replace b1 := kept hb1 b1
              replace hr := hr.below (hb1.mono hs)
              replace hd := hd.below (hb1.mono hs)
              replace hL4 := (hL4.below hb1).mono hb1.size
              replace HB := Lib.hid (HB.out.trans (hb1.mono hs))
              replace hs := Nat.le_trans hs hb1.size
              clear hb1
              go_upto_region 11 with (go_at_call 72; refine (DE w8 w.heap.size A D c e hd hs).mono ?_; rintro e w9 ⟨rfl, hb1⟩)
              replace a0 := kept hb1 a0
              replace a1 := kept hb1 a1
              replace b0 := kept hb1 b0
              replace b1 := kept hb1 b1
              replace hr := hr.below (hb1.mono hs)
              replace hd := hd.below (hb1.mono hs)
              replace hL4 := (hL4.below hb1).mono hb1.size
              replace HB := Lib.hid (HB.out.trans (hb1.mono hs))
              replace hs := Nat.le_trans hs hb1.size
              clear hb1
              go_upto_region 14 with fail
              have x0 := fun y : Xt w9 => y.cell a0
              have x1 := fun y : Xt w9 => y.cell a1
              have x2 := fun y : Xt w9 => y.cell b0
              have x3 := fun y : Xt w9 => y.cell b1
              have hbd : Below w9.heap.size w9 w9.drew := (Below.refl _ _).drew
              have RWD := RW w9.drew w9.heap.size A D c e ((hr.below (hbd.mono hs)).mono hs) ((hd.below (hbd.mono hs)).mono hs) hbd.size
              refine wp_region_eager [7, 8] (fun w' => ∃ x : Xt w9, w' = x.1) (by kernel_rfl) ⟨⟨w9.drew, (Below.refl _ _).drew⟩, rfl⟩ ?_
              refine wpE_reads2 [0, 1, 2, 3, 4, 5] 3 rfl (by kernel_rfl) ?_
              simp only [opsAt_nil, opsAt_cons, consOpt_some, List.getElem?_toArray, List.getElem?_cons_zero, List.getElem?_cons_succ]
              repeat (go_big_quiet_step (fail))
              refine wpQuiet_nil ?_
              show wpE _ _ _ _ _ _ _ _ _ w9.drew
              clear x0 x1 x2 x3
              refine wpE_one (i := 6) rfl (by kernel_rfl) rfl ?_
              unfold wpMid
              simp only [opsAt_nil, opsAt_cons, consOpt_some, List.getElem?_toArray, List.getElem?_cons_zero, List.getElem?_cons_succ]
              go_wp2_with (go_at_call 73; refine RWD.mono ?_; rintro e w10 ⟨rfl, hb5⟩)
              have hb1 := hbd.trans (hb5.mono hbd.size)
              clear RWD hb5 hbd
              refine onlyNormal_mk ⟨⟨⟨_, hb1⟩, rfl⟩, ?_⟩
              refine wpE_tail rfl (by kernel_rfl) ?_
              simp only [opsAt_nil, opsAt_cons, consOpt_some, List.getElem?_toArray, List.getElem?_cons_zero, List.getElem?_cons_succ]
              go_wp2
              refine onlyNormal_mk ?_
              replace a0 := kept hb1 a0
              replace a1 := kept hb1 a1
              replace b0 := kept hb1 b0
              replace b1 := kept hb1 b1
              replace hr := hr.below (hb1.mono hs)
              replace hd := hd.below (hb1.mono hs)
              replace hL4 := (hL4.below hb1).mono hb1.size
              replace HB := Lib.hid (HB.out.trans (hb1.mono hs))
              replace hs := Nat.le_trans hs hb1.size
              clear hb1
              go_upto_region 16 with fail
              go_upto_region 18 with (go_at_call 23; refine (PE _).mono ?_; rintro e w' ⟨rfl, rfl⟩)
              go_wp2_with fail
              refine (RF w10 w.heap.size A c hr hs).mono ?_
              rintro e w11 ⟨v5, rfl, ⟨g5, k5, rfl, hL5⟩, hb1⟩
              replace a0 := kept hb1 a0
              replace a1 := kept hb1 a1
              replace b0 := kept hb1 b0
              replace b1 := kept hb1 b1
              replace hr := hr.below (hb1.mono hs)
              replace hd := hd.below (hb1.mono hs)
              replace hL4 := (hL4.below hb1).mono hb1.size
              replace HB := Lib.hid (HB.out.trans (hb1.mono hs))
              replace hs := Nat.le_trans hs hb1.size
              clear hb1
              have hTc : natCells T = intCells (T.map fun (i : Nat) => (i : Int)) := (nat_cast_cells T).symm
              rw [hTc] at hL4 hL5
              have hT1 := hRl T rfl
              have IS := Ints_same (some ⟨g4, 0, none⟩) (some ⟨g5, 0, none⟩) T.length k4 k5 w11.heap.size w11.heap.size (T.map fun (i : Nat) => (i : Int)) w11 (by omega) (List.length_map ..) hL4 hL5 (Nat.le_refl _) (Nat.le_refl _)
              go_wp2_with (go_at_call 50; refine IS.mono ?_; rintro e w12 ⟨rfl, hb1⟩)
              go_ret
              exact ⟨rfl, HB.out.trans (hb1.mono hs)⟩
            · obtain ⟨er, her⟩ : ∃ er, depsE n ds = er := ⟨_, rfl⟩
              have hEw : wpErr L l ds = er := by rw [wpErr, HZ.out, if_pos rfl, HL.out, her]
              have hne : er ≠ 0 := by rw [← her]; exact hdz
              have WP := fun W B A1 A3 c1 c3 (h1 : Rd W B A1 (depCells l)) (h2 : Rd W B A3 (intCells ds)) (h3 : B ≤ W.heap.size) => WorstPlace_bad W B L A1 A3 n c1 md c3 l ds HL.out HM.out h1 h2 h3 (by omega) (by omega) er hEw hne
              unfold WPPost at WP
              rw [her] at DE
              have e1 : (er != 0) = true := bne_iff_ne.2 hne
              have e3 : (er != er) = false := by simp
              have e2 := run_eq2 0 0
              clear her hEw hdz hne
              go_upto_region 5 with fail
              go_wp2_with fail
              refine (CopyRescue_any w1 w.heap.size L A n c l HL.out (by omega) hr hs).mono ?_
              rintro e w2 ⟨A1, c1, rfl, hp1, hb1⟩
              replace a0 := kept hb1 a0
              replace a1 := kept hb1 a1
              replace hr := hr.below (hb1.mono hs)
              replace hd := hd.below (hb1.mono hs)
              replace HB := Lib.hid (HB.out.trans (hb1.mono hs))
              replace hs := Nat.le_trans hs hb1.size
              clear hb1
              go_wp2_with fail
              refine (CopyInts_any w2 w.heap.size D md e ds HM.out (by omega) hd hs).mono ?_
              rintro e w3 ⟨A3, c3, rfl, ht1, hb1⟩
              replace a0 := kept hb1 a0
              replace a1 := kept hb1 a1
              replace hr := hr.below (hb1.mono hs)
              replace hd := hd.below (hb1.mono hs)
              replace hp1 := (hp1.below hb1).mono hb1.size
              replace HB := Lib.hid (HB.out.trans (hb1.mono hs))
              replace hs := Nat.le_trans hs hb1.size
              clear hb1
              go_wp2_with fail
              refine (WP w3 w3.heap.size A1 A3 c1 c3 hp1 ht1 (Nat.le_refl _)).mono ?_
              rintro e w4 ⟨rfl, hb1⟩
              replace a0 := kept hb1 a0
              replace a1 := kept hb1 a1
              replace hr := hr.below (hb1.mono hs)
              replace hd := hd.below (hb1.mono hs)
              replace hp1 := (hp1.below hb1).mono hb1.size
              replace ht1 := (ht1.below hb1).mono hb1.size
              replace HB := Lib.hid (HB.out.trans (hb1.mono hs))
              replace hs := Nat.le_trans hs hb1.size
              clear hb1
              clear hp1 ht1
              obtain ⟨b0, b1, hb1⟩ := box2 w4 0 0
              go_upto_region 6 with fail
              generalize w4.alloc (.cells #[.int .i64 0, .int .i64 0] 108) = wF at *
              replace a0 := kept hb1 a0
              replace a1 := kept hb1 a1
              replace hr := hr.below (hb1.mono hs)
              replace hd := hd.below (hb1.mono hs)
              replace HB := Lib.hid (HB.out.trans (hb1.mono hs))
              replace hs := Nat.le_trans hs hb1.size
              clear hb1
              go_wp2_with fail
              refine (CopyRescue_any wF w.heap.size L A n c l HL.out (by omega) hr hs).mono ?_
              rintro e w6 ⟨A1, c1, rfl, hp1, hb1⟩
              replace a0 := kept hb1 a0
              replace a1 := kept hb1 a1
              replace b0 := kept hb1 b0
              replace b1 := kept hb1 b1
              replace hr := hr.below (hb1.mono hs)
              replace hd := hd.below (hb1.mono hs)
              replace HB := Lib.hid (HB.out.trans (hb1.mono hs))
              replace hs := Nat.le_trans hs hb1.size
              clear hb1
              go_upto_region 7 with (go_at_call 70; refine (FD w6 w6.heap.size A1 c1 hp1 (Nat.le_refl _)).mono ?_; rintro e w7 ⟨v4, rfl, ⟨g4, k4, rfl, hL4⟩, hb1⟩)
              replace a0 := kept hb1 a0
              replace a1 := kept hb1 a1
              replace b0 := kept hb1 b0
              replace b1 := kept hb1 b1
              replace hr := hr.below (hb1.mono hs)
              replace hd := hd.below (hb1.mono hs)
              replace hp1 := (hp1.below hb1).mono hb1.size
              replace HB := Lib.hid (HB.out.trans (hb1.mono hs))
              replace hs := Nat.le_trans hs hb1.size
              clear hb1
              clear hp1
              go_upto_region 8 with (go_at_call 71; refine (RE w7 w.heap.size A c hr hs).mono ?_; rintro e w8 ⟨rfl, hb1⟩)
              replace a0 := kept hb1 a0
              replace a1 := kept hb1 a1
              replace b0 := kept hb1 b0
              replace b1 := kept hb1 b1
              replace hr := hr.below (hb1.mono hs)
              replace hd := hd.below (hb1.mono hs)
              replace hL4 := (hL4.below hb1).mono hb1.size
              replace HB := Lib.hid (HB.out.trans (hb1.mono hs))
              replace hs := Nat.le_trans hs hb1.size
              clear hb1
              go_upto_region 11 with (go_at_call 72; refine (DE w8 w.heap.size A D c e hd hs).mono ?_; rintro e w9 ⟨rfl, hb1⟩)
              replace a0 := kept hb1 a0
              replace a1 := kept hb1 a1
              replace b0 := kept hb1 b0
              replace b1 := kept hb1 b1
              replace hr := hr.below (hb1.mono hs)
              replace hd := hd.below (hb1.mono hs)
              replace hL4 := (hL4.below hb1).mono hb1.size
              replace HB := Lib.hid (HB.out.trans (hb1.mono hs))
              replace hs := Nat.le_trans hs hb1.size
              clear hb1
              go_upto_region 16 with fail
              go_upto_region 18 with (go_at_call 23; refine (PE _).mono ?_; rintro e w' ⟨rfl, rfl⟩)
              go_wp2_with fail
              refine (RF w9 w.heap.size A c hr hs).mono ?_
              rintro e w11 ⟨v5, rfl, ⟨g5, k5, rfl, hL5⟩, hb1⟩
              replace a0 := kept hb1 a0
              replace a1 := kept hb1 a1
              replace b0 := kept hb1 b0
              replace b1 := kept hb1 b1
              replace hr := hr.below (hb1.mono hs)
              replace hd := hd.below (hb1.mono hs)
              replace hL4 := (hL4.below hb1).mono hb1.size
              replace HB := Lib.hid (HB.out.trans (hb1.mono hs))
              replace hs := Nat.le_trans hs hb1.size
              clear hb1
              have hTc : natCells T = intCells (T.map fun (i : Nat) => (i : Int)) := (nat_cast_cells T).symm
              rw [hTc] at hL4 hL5
              have hT1 := hRl T rfl
              have IS := Ints_same (some ⟨g4, 0, none⟩) (some ⟨g5, 0, none⟩) T.length k4 k5 w11.heap.size w11.heap.size (T.map fun (i : Nat) => (i : Int)) w11 (by omega) (List.length_map ..) hL4 hL5 (Nat.le_refl _) (Nat.le_refl _)
              go_wp2_with (go_at_call 50; refine IS.mono ?_; rintro e w12 ⟨rfl, hb1⟩)
              go_ret
              exact ⟨rfl, HB.out.trans (hb1.mono hs)⟩
        · obtain ⟨ep, hep⟩ : ∃ ep, placeE td = ep := ⟨_, rfl⟩
          have hep2 : ep = 2 := by
            rw [← hep]
            unfold placeE unlessE at hpz ⊢
            cases hb : isPlaceB td with
            | true => rw [hb] at hpz; exact absurd rfl hpz
            | false => rfl
          have hEf : firstE [rescueM L l, placeE td] = ep := by rw [HZ.out, hep, firstE_z0, hep2]; rfl
          have FD := fun W B A1 c1 (h1 : Rd W B A1 (depCells l)) (h3 : B ≤ W.heap.size) => FewestDepots_bad W B L td A1 n c1 l HL.out h1 h3 (by omega) ep hEf (by omega)
          have PE := fun W => PlaceErr_any td W
          rw [hep] at PE
          rw [hep2] at PE FD
          clear hep hep2 hEf hpz
          by_cases hdz : depsE n ds = 0
          · obtain ⟨hm0, hgo⟩ : 0 < md ∧ depsGo n (-1) ds = 0 := by
              have h := hdz
              unfold depsE at h
              rw [HM.out] at h
              split at h
              · exact absurd h (by decide)
              · exact ⟨by omega, h⟩
            have hmem := depsGo_mem ds (-1) hgo
            have hnat := nat_of_ints ds (fun d hd => (hmem d hd).1)
            have hm8 : md ≤ 8 := by omega
            have WP := fun W B A1 A3 c1 c3 (h1 : Rd W B A1 (depCells l)) (h2 : Rd W B A3 (intCells ds)) (h3 : B ≤ W.heap.size) => WorstPlace_yes W B L A1 A3 n c1 md c3 l ds HL.out HM.out h1 h2 h3 HZ.out hm0 hgo
            have RW := fun W B A1 A3 c1 c3 (h1 : Rd W B A1 (depCells l)) (h2 : Rd W B A3 (natCells (ds.map Int.toNat))) (h3 : B ≤ W.heap.size) => refWorst_any W B L A1 A3 n c1 md c3 l (ds.map Int.toNat) HL.out (by rw [List.length_map]; exact HM.out) h1 h2 h3 ⟨hL0, hL1⟩ (fun d hd => (HOK.out d hd).1) (by
              intro i hi
              obtain ⟨d, hd, rfl⟩ := List.mem_map.1 hi
              have := hmem d hd
              omega) hm8 hm0
            rw [hnat] at RW
            obtain ⟨⟨o1, o2⟩, hom⟩ : ∃ om, worstM l L (ds.map Int.toNat) = om := ⟨_, rfl⟩
            rw [hom] at WP RW
            unfold WPPost at WP
            unfold WorstPost at RW
            simp only at WP RW
            rw [hdz] at DE
            have e2 := run_eq2 o1 o2
            clear hdz hgo hmem hnat hom
            go_upto_region 5 with fail
            go_wp2_with fail
            refine (CopyRescue_any w1 w.heap.size L A n c l HL.out (by omega) hr hs).mono ?_
            rintro e w2 ⟨A1, c1, rfl, hp1, hb1⟩
            replace a0 := kept hb1 a0
            replace a1 := kept hb1 a1
            replace hr := hr.below (hb1.mono hs)
            replace hd := hd.below (hb1.mono hs)
            replace HB := Lib.hid (HB.out.trans (hb1.mono hs))
            replace hs := Nat.le_trans hs hb1.size
            clear hb1
            go_wp2_with fail
            refine (CopyInts_any w2 w.heap.size D md e ds HM.out (by omega) hd hs).mono ?_
            rintro e w3 ⟨A3, c3, rfl, ht1, hb1⟩
            replace a0 := kept hb1 a0
            replace a1 := kept hb1 a1
            replace hr := hr.below (hb1.mono hs)
            replace hd := hd.below (hb1.mono hs)
            replace hp1 := (hp1.below hb1).mono hb1.size
            replace HB := Lib.hid (HB.out.trans (hb1.mono hs))
            replace hs := Nat.le_trans hs hb1.size
            clear hb1
            go_wp2_with fail
            refine (WP w3 w3.heap.size A1 A3 c1 c3 hp1 ht1 (Nat.le_refl _)).mono ?_
            rintro e w4 ⟨rfl, hb1⟩
            replace a0 := kept hb1 a0
            replace a1 := kept hb1 a1
            replace hr := hr.below (hb1.mono hs)
            replace hd := hd.below (hb1.mono hs)
            replace hp1 := (hp1.below hb1).mono hb1.size
            replace ht1 := (ht1.below hb1).mono hb1.size
            replace HB := Lib.hid (HB.out.trans (hb1.mono hs))
            replace hs := Nat.le_trans hs hb1.size
            clear hb1
            clear hp1 ht1
            obtain ⟨b0, b1, hb1⟩ := box2 w4 o1 o2
            go_upto_region 6 with fail
            generalize w4.alloc (.cells #[.int .i64 o1, .int .i64 o2] 108) = wF at *
            replace a0 := kept hb1 a0
            replace a1 := kept hb1 a1
            replace hr := hr.below (hb1.mono hs)
            replace hd := hd.below (hb1.mono hs)
            replace HB := Lib.hid (HB.out.trans (hb1.mono hs))
            replace hs := Nat.le_trans hs hb1.size
            clear hb1
            go_wp2_with fail
            refine (CopyRescue_any wF w.heap.size L A n c l HL.out (by omega) hr hs).mono ?_
            rintro e w6 ⟨A1, c1, rfl, hp1, hb1⟩
            replace a0 := kept hb1 a0
            replace a1 := kept hb1 a1
            replace b0 := kept hb1 b0
            replace b1 := kept hb1 b1
            replace hr := hr.below (hb1.mono hs)
            replace hd := hd.below (hb1.mono hs)
            replace HB := Lib.hid (HB.out.trans (hb1.mono hs))
            replace hs := Nat.le_trans hs hb1.size
            clear hb1
            go_upto_region 7 with (go_at_call 70; refine (FD w6 w6.heap.size A1 c1 hp1 (Nat.le_refl _)).mono ?_; rintro e w7 ⟨rfl, hb1⟩)
            replace a0 := kept hb1 a0
            replace a1 := kept hb1 a1
            replace b0 := kept hb1 b0
            replace b1 := kept hb1 b1
            replace hr := hr.below (hb1.mono hs)
            replace hd := hd.below (hb1.mono hs)
            replace hp1 := (hp1.below hb1).mono hb1.size
            replace HB := Lib.hid (HB.out.trans (hb1.mono hs))
            replace hs := Nat.le_trans hs hb1.size
            clear hb1
            clear hp1
            go_upto_region 8 with (go_at_call 71; refine (RE w7 w.heap.size A c hr hs).mono ?_; rintro e w8 ⟨rfl, hb1⟩)
            replace a0 := kept hb1 a0
            replace a1 := kept hb1 a1
            replace b0 := kept hb1 b0
            replace b1 := kept hb1 b1
            replace hr := hr.below (hb1.mono hs)
            replace hd := hd.below (hb1.mono hs)
            replace HB := Lib.hid (HB.out.trans (hb1.mono hs))
            replace hs := Nat.le_trans hs hb1.size
            clear hb1
            go_upto_region 11 with (go_at_call 72; refine (DE w8 w.heap.size A D c e hd hs).mono ?_; rintro e w9 ⟨rfl, hb1⟩)
            replace a0 := kept hb1 a0
            replace a1 := kept hb1 a1
            replace b0 := kept hb1 b0
            replace b1 := kept hb1 b1
            replace hr := hr.below (hb1.mono hs)
            replace hd := hd.below (hb1.mono hs)
            replace HB := Lib.hid (HB.out.trans (hb1.mono hs))
            replace hs := Nat.le_trans hs hb1.size
            clear hb1
            go_upto_region 14 with fail
            have x0 := fun y : Xt w9 => y.cell a0
            have x1 := fun y : Xt w9 => y.cell a1
            have x2 := fun y : Xt w9 => y.cell b0
            have x3 := fun y : Xt w9 => y.cell b1
            have hbd : Below w9.heap.size w9 w9.drew := (Below.refl _ _).drew
            have RWD := RW w9.drew w9.heap.size A D c e ((hr.below (hbd.mono hs)).mono hs) ((hd.below (hbd.mono hs)).mono hs) hbd.size
            refine wp_region_eager [7, 8] (fun w' => ∃ x : Xt w9, w' = x.1) (by kernel_rfl) ⟨⟨w9.drew, (Below.refl _ _).drew⟩, rfl⟩ ?_
            refine wpE_reads2 [0, 1, 2, 3, 4, 5] 3 rfl (by kernel_rfl) ?_
            simp only [opsAt_nil, opsAt_cons, consOpt_some, List.getElem?_toArray, List.getElem?_cons_zero, List.getElem?_cons_succ]
            repeat (go_big_quiet_step (fail))
            refine wpQuiet_nil ?_
            show wpE _ _ _ _ _ _ _ _ _ w9.drew
            clear x0 x1 x2 x3
            refine wpE_one (i := 6) rfl (by kernel_rfl) rfl ?_
            unfold wpMid
            simp only [opsAt_nil, opsAt_cons, consOpt_some, List.getElem?_toArray, List.getElem?_cons_zero, List.getElem?_cons_succ]
            go_wp2_with (go_at_call 73; refine RWD.mono ?_; rintro e w10 ⟨rfl, hb5⟩)
            have hb1 := hbd.trans (hb5.mono hbd.size)
            clear RWD hb5 hbd
            refine onlyNormal_mk ⟨⟨⟨_, hb1⟩, rfl⟩, ?_⟩
            refine wpE_tail rfl (by kernel_rfl) ?_
            simp only [opsAt_nil, opsAt_cons, consOpt_some, List.getElem?_toArray, List.getElem?_cons_zero, List.getElem?_cons_succ]
            go_wp2
            refine onlyNormal_mk ?_
            replace a0 := kept hb1 a0
            replace a1 := kept hb1 a1
            replace b0 := kept hb1 b0
            replace b1 := kept hb1 b1
            replace hr := hr.below (hb1.mono hs)
            replace hd := hd.below (hb1.mono hs)
            replace HB := Lib.hid (HB.out.trans (hb1.mono hs))
            replace hs := Nat.le_trans hs hb1.size
            clear hb1
            go_upto_region 16 with fail
            go_wp2_with (go_at_call 23; refine (PE _).mono ?_; rintro e w' ⟨rfl, rfl⟩)
            go_ret
            exact ⟨rfl, HB.out⟩
          · obtain ⟨er, her⟩ : ∃ er, depsE n ds = er := ⟨_, rfl⟩
            have hEw : wpErr L l ds = er := by rw [wpErr, HZ.out, if_pos rfl, HL.out, her]
            have hne : er ≠ 0 := by rw [← her]; exact hdz
            have WP := fun W B A1 A3 c1 c3 (h1 : Rd W B A1 (depCells l)) (h2 : Rd W B A3 (intCells ds)) (h3 : B ≤ W.heap.size) => WorstPlace_bad W B L A1 A3 n c1 md c3 l ds HL.out HM.out h1 h2 h3 (by omega) (by omega) er hEw hne
            unfold WPPost at WP
            rw [her] at DE
            have e1 : (er != 0) = true := bne_iff_ne.2 hne
            have e3 : (er != er) = false := by simp
            have e2 := run_eq2 0 0
            clear her hEw hdz hne
            go_upto_region 5 with fail
            go_wp2_with fail
            refine (CopyRescue_any w1 w.heap.size L A n c l HL.out (by omega) hr hs).mono ?_
            rintro e w2 ⟨A1, c1, rfl, hp1, hb1⟩
            replace a0 := kept hb1 a0
            replace a1 := kept hb1 a1
            replace hr := hr.below (hb1.mono hs)
            replace hd := hd.below (hb1.mono hs)
            replace HB := Lib.hid (HB.out.trans (hb1.mono hs))
            replace hs := Nat.le_trans hs hb1.size
            clear hb1
            go_wp2_with fail
            refine (CopyInts_any w2 w.heap.size D md e ds HM.out (by omega) hd hs).mono ?_
            rintro e w3 ⟨A3, c3, rfl, ht1, hb1⟩
            replace a0 := kept hb1 a0
            replace a1 := kept hb1 a1
            replace hr := hr.below (hb1.mono hs)
            replace hd := hd.below (hb1.mono hs)
            replace hp1 := (hp1.below hb1).mono hb1.size
            replace HB := Lib.hid (HB.out.trans (hb1.mono hs))
            replace hs := Nat.le_trans hs hb1.size
            clear hb1
            go_wp2_with fail
            refine (WP w3 w3.heap.size A1 A3 c1 c3 hp1 ht1 (Nat.le_refl _)).mono ?_
            rintro e w4 ⟨rfl, hb1⟩
            replace a0 := kept hb1 a0
            replace a1 := kept hb1 a1
            replace hr := hr.below (hb1.mono hs)
            replace hd := hd.below (hb1.mono hs)
            replace hp1 := (hp1.below hb1).mono hb1.size
            replace ht1 := (ht1.below hb1).mono hb1.size
            replace HB := Lib.hid (HB.out.trans (hb1.mono hs))
            replace hs := Nat.le_trans hs hb1.size
            clear hb1
            clear hp1 ht1
            obtain ⟨b0, b1, hb1⟩ := box2 w4 0 0
            go_upto_region 6 with fail
            generalize w4.alloc (.cells #[.int .i64 0, .int .i64 0] 108) = wF at *
            replace a0 := kept hb1 a0
            replace a1 := kept hb1 a1
            replace hr := hr.below (hb1.mono hs)
            replace hd := hd.below (hb1.mono hs)
            replace HB := Lib.hid (HB.out.trans (hb1.mono hs))
            replace hs := Nat.le_trans hs hb1.size
            clear hb1
            go_wp2_with fail
            refine (CopyRescue_any wF w.heap.size L A n c l HL.out (by omega) hr hs).mono ?_
            rintro e w6 ⟨A1, c1, rfl, hp1, hb1⟩
            replace a0 := kept hb1 a0
            replace a1 := kept hb1 a1
            replace b0 := kept hb1 b0
            replace b1 := kept hb1 b1
            replace hr := hr.below (hb1.mono hs)
            replace hd := hd.below (hb1.mono hs)
            replace HB := Lib.hid (HB.out.trans (hb1.mono hs))
            replace hs := Nat.le_trans hs hb1.size
            clear hb1
            go_upto_region 7 with (go_at_call 70; refine (FD w6 w6.heap.size A1 c1 hp1 (Nat.le_refl _)).mono ?_; rintro e w7 ⟨rfl, hb1⟩)
            replace a0 := kept hb1 a0
            replace a1 := kept hb1 a1
            replace b0 := kept hb1 b0
            replace b1 := kept hb1 b1
            replace hr := hr.below (hb1.mono hs)
            replace hd := hd.below (hb1.mono hs)
            replace hp1 := (hp1.below hb1).mono hb1.size
            replace HB := Lib.hid (HB.out.trans (hb1.mono hs))
            replace hs := Nat.le_trans hs hb1.size
            clear hb1
            clear hp1
            go_upto_region 8 with (go_at_call 71; refine (RE w7 w.heap.size A c hr hs).mono ?_; rintro e w8 ⟨rfl, hb1⟩)
            replace a0 := kept hb1 a0
            replace a1 := kept hb1 a1
            replace b0 := kept hb1 b0
            replace b1 := kept hb1 b1
            replace hr := hr.below (hb1.mono hs)
            replace hd := hd.below (hb1.mono hs)
            replace HB := Lib.hid (HB.out.trans (hb1.mono hs))
            replace hs := Nat.le_trans hs hb1.size
            clear hb1
            go_upto_region 11 with (go_at_call 72; refine (DE w8 w.heap.size A D c e hd hs).mono ?_; rintro e w9 ⟨rfl, hb1⟩)
            replace a0 := kept hb1 a0
            replace a1 := kept hb1 a1
            replace b0 := kept hb1 b0
            replace b1 := kept hb1 b1
            replace hr := hr.below (hb1.mono hs)
            replace hd := hd.below (hb1.mono hs)
            replace HB := Lib.hid (HB.out.trans (hb1.mono hs))
            replace hs := Nat.le_trans hs hb1.size
            clear hb1
            go_upto_region 16 with fail
            go_wp2_with (go_at_call 23; refine (PE _).mono ?_; rintro e w' ⟨rfl, rfl⟩)
            go_ret
            exact ⟨rfl, HB.out⟩
end Go.Proofs.YtmcjnfghlpnghaaDoor
