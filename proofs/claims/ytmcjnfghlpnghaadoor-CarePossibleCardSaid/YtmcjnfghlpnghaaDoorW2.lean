/- Rescue: the error of a rescue, whole. -/
import Derived.Test.YtmcjnfghlpnghaaDoorW1
import Derived.Test.YtmcjnfghlpnghaaDoorC11
import Derived.Test.YtmcjnfghlpnghaaDoorR1
namespace Go.Proofs.YtmcjnfghlpnghaaDoor
open Go.RowKit

def rescueHead (L : Int) (n : Nat) : Int := firstE [placeE L, unlessE (decide (0 < n)) 10, unlessE (decide ((n : Int) ≤ 8)) 8]
/-- the error of a rescue -/
def rescueM (L : Int) (l : List Dep) : Int := seqE (rescueHead L l.length) (unlessE (!l.any (badDepB L)) 2)

set_option maxHeartbeats 2000000 in
theorem rescueErr_any (w : World) (B : Nat) (L : Int) (A : Option Addr) (n c : Nat) (l : List Dep) (hl : l.length = n) (h : Rd w B A (depCells l)) (hB : B ≤ w.heap.size) (hn : n ≤ 1000000000) :
    Calls Tryd.prog 124 #[.agg #[.int .i64 L, .slice A n c]] w (ErrVal w (rescueM L l)) := by
  have hb0 : Below w.heap.size w (w.alloc (.cells #[.int .i64 L, .slice A n c] 107)) := (Below.refl _ _).alloc (Nat.le_refl _) _
  have h0 := h.below (hb0.mono hB)
  have b0 : (w.alloc (.cells #[.int .i64 L, .slice A n c] 107)).heap[w.heap.size]? = some (.cells #[.int .i64 L, .slice A n c] 107 (0, 0)) := by rw [heapq_alloc, if_pos rfl]
  have hs0 : w.heap.size + 1 ≤ (w.alloc (.cells #[.int .i64 L, .slice A n c] 107)).heap.size := by simp
  have HL := Lib.hid hl
  have H0 := Lib.hid h0
  have HB0 := Lib.hid hb0
  clear h hl h0 hb0
  go_enter Tryd.func124, Tryd.ntmps124
  go_upto_region 1 with (fail)
  generalize w.alloc (.cells #[.int .i64 L, .slice A n c] 107) = w0 at *
  have c0 := cell_of_row w0 w.heap.size 0 _ _ _ b0
  have c1 := cell_of_row w0 w.heap.size 1 _ _ _ b0
  simp at c0 c1
  generalize hx : w.heap.size = x at *
  have HX := Lib.hid hx
  clear hx b0
  have x0 := fun y : Xt w0 => y.cell c0
  have x1 := fun y : Xt w0 => y.cell c1
  refine wp_region_cut [] [0, 1, 2, 3, 4, 5, 6, 7, 8, 9, 10, 11, 12] 13 [14, 15] (fun w' => ∃ y : Xt w0, w' = y.1) (by kernel_rfl) (by kernel_rfl) ⟨⟨w0.drew, (Below.refl _ _).drew⟩, rfl⟩ ?_
  simp only [opsAt_nil, opsAt_cons, consOpt_some, List.getElem?_toArray, List.getElem?_cons_zero, List.getElem?_cons_succ]
  refine wpQuiet_nil ?_
  show wpQuiet _ _ _ _ _ _
  repeat (go_big_quiet_step (first | (go_at_call 126; exact Xt.calls_same (placeErr_any _ _)) | (go_at_call 92; exact Xt.calls_same (unless_any _ _ _))))
  refine wpQuiet_nil ?_
  intro w1 hx
  have hb1 := Xt.below hx
  clear hx x0 x1
  have c0' := cell_alloc_old (.cells #[.int .i64 (placeE L), .int .i64 (unlessE (decide (0 < n)) 10), .int .i64 (unlessE (decide ((n : Int) ≤ 8)) 8)] 29) (kept hb1 c0)
  have c1' := cell_alloc_old (.cells #[.int .i64 (placeE L), .int .i64 (unlessE (decide (0 < n)) 10), .int .i64 (unlessE (decide ((n : Int) ≤ 8)) 8)] 29) (kept hb1 c1)
  have F3 : Calls Tryd.prog 91 #[.slice (some ⟨w1.heap.size, 0, none⟩) 3 3] (w1.alloc (.cells #[.int .i64 (placeE L), .int .i64 (unlessE (decide (0 < n)) 10), .int .i64 (unlessE (decide ((n : Int) ≤ 8)) 8)] 29)) (fun e w' =>
      e = .returned (.int .i64 (rescueHead L n)) ∧ w1.alloc (.cells #[.int .i64 (placeE L), .int .i64 (unlessE (decide (0 < n)) 10), .int .i64 (unlessE (decide ((n : Int) ≤ 8)) 8)] 29) = w') := first3 w1 _ _ _
  have hb2 : Below x w (w1.alloc (.cells #[.int .i64 (placeE L), .int .i64 (unlessE (decide (0 < n)) 10), .int .i64 (unlessE (decide ((n : Int) ≤ 8)) 8)] 29)) := (HB0.out.trans (hb1.mono (by omega))).alloc (by have := hb1.size; omega) _
  have h2 := (H0.out.below (hb1.mono (by omega))).below (((Below.refl _ _).alloc (Nat.le_refl _) (.cells #[.int .i64 (placeE L), .int .i64 (unlessE (decide (0 < n)) 10), .int .i64 (unlessE (decide ((n : Int) ≤ 8)) 8)] 29)).mono (by have := hb1.size; omega))
  have hs2 : x + 1 ≤ (w1.alloc (.cells #[.int .i64 (placeE L), .int .i64 (unlessE (decide (0 < n)) 10), .int .i64 (unlessE (decide ((n : Int) ≤ 8)) 8)] 29)).heap.size := by have := hb1.size; simp; omega
  have HB2 := Lib.hid hb2
  have H2 := Lib.hid h2
  clear hb2 h2 hb1 c0 c1
  go_wp2_with (go_at_call 91; refine F3.mono ?_; rintro e w' ⟨rfl, rfl⟩)
  refine onlyNormal_mk ?_
  generalize w1.alloc (.cells #[.int .i64 (placeE L), .int .i64 (unlessE (decide (0 < n)) 10), .int .i64 (unlessE (decide ((n : Int) ≤ 8)) 8)] 29) = w2 at *
  clear F3
  by_cases hE : rescueHead L n = 0
  · have HV : Hid (rescueM L l = unlessE (!l.any (badDepB L)) 2) := by
      rw [Hid, rescueM, HL.out, hE]
      rfl
    have hE' : (rescueHead L n != 0) = false := by simp [hE]
    have C := ContainsFunc_159 A n c B x L l w2 hn HL.out H2.out (by omega) c0'
    have U := fun (b : Bool) (W : World) => unless_any b 2 W
    clear hE
    go_wp2_with (first | (go_at_call 158; refine C.mono ?_; rintro e w3 ⟨rfl, hb3⟩) | (go_at_call 92; refine (U _ _).mono ?_; rintro e w' ⟨rfl, rfl⟩))
    go_ret
    refine ⟨by rw [HV.out]; rfl, ?_⟩
    rw [HX.out]
    exact HB2.out.trans (hb3.mono (by omega))
  · have HV : Hid (rescueM L l = rescueHead L n) := by
      rw [Hid, rescueM, HL.out, seqE, if_neg hE]
    have hE' : (rescueHead L n != 0) = true := by simp [hE]
    clear hE
    go_wp2
    go_ret
    refine ⟨by rw [HV.out]; rfl, ?_⟩
    rw [HX.out]
    exact HB2.out
end Go.Proofs.YtmcjnfghlpnghaaDoor
