/- Begin: the state of a train that stands at a place; the reference's too. -/
import Derived.Test.YtmcjnfghlpnghaaDoorE1
namespace Go.Proofs.YtmcjnfghlpnghaaDoor
open Go.RowKit

/-- a state handed back: some slices that read as it does -/
def StRes (w : World) (s : Tr) (D : Nat) (v : Value) : Prop :=
  ∃ Ag Ad cg cd, v = stV s Ag Ad D D cg cd ∧ StAt w w.heap.size Ag Ad D D s

def begin0 (D : Nat) (place : Int) : Tr := ⟨false, false, place, List.replicate D false, List.replicate D false⟩

def BeginYes (w : World) (D : Nat) (place : Int) (e : Ending) (w' : World) : Prop :=
  ∃ Ag Ad cg cd, e = .returned (.tuple #[stV (begin0 D place) Ag Ad D D cg cd, .int .i64 0]) ∧ StAt w' w'.heap.size Ag Ad D D (begin0 D place) ∧ Below w.heap.size w w'

set_option maxHeartbeats 2000000 in
theorem Begin_yes (D : Nat) (T S place : Int) (w : World) (hD : D ≤ 6) (h0 : firstE [doorsE D T S, placeE place] = 0) :
    Calls Tryd.prog 37 #[.agg #[.int .i64 D, .int .i64 T, .int .i64 S], .int .i64 place] w (BeginYes w D place) := by
  have hb0 : Below w.heap.size w ((w.alloc (.cells #[.int .i64 D, .int .i64 T, .int .i64 S] 23)).alloc (.cells #[.bool false, .bool false, .int .i64 0, .slice none 0 0, .slice none 0 0] 28)) :=
    ((Below.refl _ _).alloc (Nat.le_refl _) _).alloc (by simp) _
  have hr : ((w.alloc (.cells #[.int .i64 D, .int .i64 T, .int .i64 S] 23)).alloc (.cells #[.bool false, .bool false, .int .i64 0, .slice none 0 0, .slice none 0 0] 28)).heap[w.heap.size + 1]? = some (.cells #[.bool false, .bool false, .int .i64 0, .slice none 0 0, .slice none 0 0] 28 (0, 0)) := by
    rw [heapq_alloc, if_pos (by simp)]
  have hs0 : ((w.alloc (.cells #[.int .i64 D, .int .i64 T, .int .i64 S] 23)).alloc (.cells #[.bool false, .bool false, .int .i64 0, .slice none 0 0, .slice none 0 0] 28)).heap.size = w.heap.size + 2 := by simp
  have H0 := Lib.hid h0
  clear h0
  go_enter Tryd.func37, Tryd.ntmps37
  go_wp2_with fail
  generalize ((w.alloc (.cells #[.int .i64 D, .int .i64 T, .int .i64 S] 23)).alloc (.cells #[.bool false, .bool false, .int .i64 0, .slice none 0 0, .slice none 0 0] 28)) = w0 at *
  refine (begin_yes D T S place _ hD H0.out).mono ?_
  rintro e w1 ⟨g, bg, bd, rfl, ht1, hb1⟩
  go_wp2_with fail
  refine (told_ok w1 ht1).mono ?_
  rintro e w2 ⟨rfl, hb2⟩
  have ht2 := ht1.below hb2
  have hr2 := ((hb1.trans (hb2.mono hb1.size)).block (w.heap.size + 1) (by omega)).trans hr
  obtain ⟨t0, t1, t2, t3, t4, q0, q1, q2, q3, q4⟩ := res5 hr2
  have hbw : Below w.heap.size w w2 := hb0.trans ((hb1.trans (hb2.mono hb1.size)).mono (by omega))
  have hgB := ht2.hB
  have hbg := ht2.bgLt
  have hbd := ht2.bdLt
  rw [hs0] at hgB hbg hbd
  have HT := Lib.hid ht2
  clear hr hr2 hb0 hb1 hb2 ht1 ht2
  simp only [trSt]
  go_wp2
  refine bodyPost_ret (v := .tuple #[stV (begin0 D place) (some ⟨bg, 0, none⟩) (some ⟨bd, 0, none⟩) D D D D, .int .i64 0]) (by simp [results, Tryd.results37, go_sem, stV, begin0, t0, t1, t2, t3, t4]) rfl ⟨_, _, _, _, rfl, ?_, ?_⟩
  · exact ((((((HT.out.far (by simp; omega) (by simp; omega) (by simp; omega) _).far (by simp; omega) (by simp; omega) (by simp; omega) _).far (by simp; omega) (by simp; omega) (by simp; omega) _).far (by simp; omega) (by simp; omega) (by simp; omega) _).far (by simp; omega) (by simp; omega) (by simp; omega) _).st (by omega))
  · exact (((((hbw.setCell (by simp) _).setCell (by simp) _).setCell (by simp) _).setCell (by simp) _).setCell (by simp) _)

def BeginNo (w : World) (E : Int) (e : Ending) (w' : World) : Prop := e = .returned (.tuple #[zeroSt, .int .i64 E]) ∧ Below w.heap.size w w'

set_option maxHeartbeats 2000000 in
theorem Begin_no (D T S place : Int) (w : World) (h0 : firstE [doorsE D T S, placeE place] ≠ 0) :
    Calls Tryd.prog 37 #[.agg #[.int .i64 D, .int .i64 T, .int .i64 S], .int .i64 place] w (BeginNo w (firstE [doorsE D T S, placeE place])) := by
  have hb0 : Below w.heap.size w ((w.alloc (.cells #[.int .i64 D, .int .i64 T, .int .i64 S] 23)).alloc (.cells #[.bool false, .bool false, .int .i64 0, .slice none 0 0, .slice none 0 0] 28)) :=
    ((Below.refl _ _).alloc (Nat.le_refl _) _).alloc (by simp) _
  have hr : ((w.alloc (.cells #[.int .i64 D, .int .i64 T, .int .i64 S] 23)).alloc (.cells #[.bool false, .bool false, .int .i64 0, .slice none 0 0, .slice none 0 0] 28)).heap[w.heap.size + 1]? = some (.cells #[.bool false, .bool false, .int .i64 0, .slice none 0 0, .slice none 0 0] 28 (0, 0)) := by
    rw [heapq_alloc, if_pos (by simp)]
  have hs0 : ((w.alloc (.cells #[.int .i64 D, .int .i64 T, .int .i64 S] 23)).alloc (.cells #[.bool false, .bool false, .int .i64 0, .slice none 0 0, .slice none 0 0] 28)).heap.size = w.heap.size + 2 := by simp
  have C := begin_no D T S place ((w.alloc (.cells #[.int .i64 D, .int .i64 T, .int .i64 S] 23)).alloc (.cells #[.bool false, .bool false, .int .i64 0, .slice none 0 0, .slice none 0 0] 28)) h0
  generalize firstE [doorsE D T S, placeE place] = E at *
  go_enter Tryd.func37, Tryd.ntmps37
  go_wp2_with fail
  generalize ((w.alloc (.cells #[.int .i64 D, .int .i64 T, .int .i64 S] 23)).alloc (.cells #[.bool false, .bool false, .int .i64 0, .slice none 0 0, .slice none 0 0] 28)) = w0 at *
  refine C.mono ?_
  rintro e w1 ⟨rfl, hb1⟩
  go_wp2_with fail
  refine (told_err w1 _ E h0).mono ?_
  rintro e w2 ⟨rfl, hb2⟩
  have hr2 := ((hb1.trans (hb2.mono hb1.size)).block (w.heap.size + 1) (by omega)).trans hr
  obtain ⟨t0, t1, t2, t3, t4, q0, q1, q2, q3, q4⟩ := res5 hr2
  have hbw : Below w.heap.size w w2 := hb0.trans ((hb1.trans (hb2.mono hb1.size)).mono (by omega))
  clear hr hr2 hb0 hb1 hb2 C
  simp only [zeroSt]
  go_wp2
  refine bodyPost_ret (v := .tuple #[zeroSt, .int .i64 E]) (by simp [results, Tryd.results37, go_sem, zeroSt, t0, t1, t2, t3, t4]) rfl ⟨rfl, ?_⟩
  exact (((((hbw.setCell (by simp) _).setCell (by simp) _).setCell (by simp) _).setCell (by simp) _).setCell (by simp) _)

def RefBegin (w : World) (D : Nat) (place : Int) (e : Ending) (w' : World) : Prop :=
  ∃ Ag Ad cg cd, e = .returned (stV (begin0 D place) Ag Ad D D cg cd) ∧ StAt w' w'.heap.size Ag Ad D D (begin0 D place) ∧ Below w.heap.size w w'

set_option maxHeartbeats 4000000 in
theorem refBegin_any (D : Nat) (T S place : Int) (w : World) (hD : D ≤ 6) :
    Calls Tryd.prog 38 #[.agg #[.int .i64 D, .int .i64 T, .int .i64 S], .int .i64 place] w (RefBegin w D place) := by
  have hmk := run_make_row' (P := Tryd.prog) 26 4 (.bool false) 1 Tryd.underlying26 info4 rfl .i64 .i64 D (by omega) (by omega)
  have hb0 : Below w.heap.size w ((w.alloc (.cells #[.int .i64 D, .int .i64 T, .int .i64 S] 23)).alloc (.cells #[.bool false, .bool false, .int .i64 0, .slice none 0 0, .slice none 0 0] 28)) :=
    ((Below.refl _ _).alloc (Nat.le_refl _) _).alloc (by simp) _
  have hr : ((w.alloc (.cells #[.int .i64 D, .int .i64 T, .int .i64 S] 23)).alloc (.cells #[.bool false, .bool false, .int .i64 0, .slice none 0 0, .slice none 0 0] 28)).heap[w.heap.size + 1]? = some (.cells #[.bool false, .bool false, .int .i64 0, .slice none 0 0, .slice none 0 0] 28 (0, 0)) := by
    rw [heapq_alloc, if_pos (by simp)]
  have k0 : ((w.alloc (.cells #[.int .i64 D, .int .i64 T, .int .i64 S] 23)).alloc (.cells #[.bool false, .bool false, .int .i64 0, .slice none 0 0, .slice none 0 0] 28)).cell? ⟨w.heap.size, 0, none⟩ = some (.int .i64 D) := by simp
  have hs0 : ((w.alloc (.cells #[.int .i64 D, .int .i64 T, .int .i64 S] 23)).alloc (.cells #[.bool false, .bool false, .int .i64 0, .slice none 0 0, .slice none 0 0] 28)).heap.size = w.heap.size + 2 := by simp
  go_enter Tryd.func38, Tryd.ntmps38
  go_upto_region 1 with (fail)
  generalize ((w.alloc (.cells #[.int .i64 D, .int .i64 T, .int .i64 S] 23)).alloc (.cells #[.bool false, .bool false, .int .i64 0, .slice none 0 0, .slice none 0 0] 28)) = W0 at *
  obtain ⟨t0, t1, t2, t3, t4, q0, q1, q2, q3, q4⟩ := res5 hr
  have x0 := fun x : Xt W0 => x.cell k0
  clear t0 t1 t2 t3 t4 q0 q1 q2 q3 q4
  refine wp_region_mid [] [0, 1, 2, 4, 5] 2 [7, 8] (fun w' => ∃ x : Xt W0, w' = x.1) (by kernel_rfl) (by kernel_rfl) ⟨⟨W0.drew, (Below.refl _ _).drew⟩, rfl⟩ ?_
  simp only [opsAt_nil, opsAt_cons, consOpt_some, List.getElem?_toArray, List.getElem?_cons_zero, List.getElem?_cons_succ]
  refine wpQuiet_nil ?_
  show wpQuiet _ _ _ _ _ _
  repeat (go_big_quiet_step (fail))
  refine wpQuiet_nil ?_
  show wpOrders _ _ _ _ _ _ _ _ W0.drew
  clear x0
  refine wpOrders_two (i := 3) (k := 6) (by kernel_rfl) ?_ ?_
  · unfold wpMid
    simp only [opsAt_nil, opsAt_cons, consOpt_some, List.getElem?_toArray, List.getElem?_cons_zero, List.getElem?_cons_succ]
    go_wp2
    refine onlyNormal_mk ⟨⟨⟨_, ((Below.refl _ _).drew).alloc (by simp) _⟩, rfl⟩, ?_⟩
    refine wpOrders_one (i := 6) (by kernel_rfl) ?_
    unfold wpMid
    simp only [opsAt_nil, opsAt_cons, consOpt_some, List.getElem?_toArray, List.getElem?_cons_zero, List.getElem?_cons_succ]
    go_wp2
    refine onlyNormal_mk ⟨⟨⟨_, (((Below.refl _ _).drew).alloc (by simp) _).alloc (by simp) _⟩, rfl⟩, ?_⟩
    refine wpOrders_zero ?_
    have hbN : Below W0.heap.size W0 (((W0.alloc (.cells (madeCells #[Value.bool false] D) 4)).alloc (.cells (madeCells #[Value.bool false] D) 4)).drew) := (((Below.refl _ _).alloc (by simp) _).alloc (by simp) _).drew
    have b1 : (((W0.alloc (.cells (madeCells #[Value.bool false] D) 4)).alloc (.cells (madeCells #[Value.bool false] D) 4)).drew).heap[W0.heap.size]? = some (.cells (madeCells #[Value.bool false] D) 4 (0, 0)) := by
      rw [heapq_drew, heapq_alloc, if_neg (by simp), heapq_alloc, if_pos rfl]
    have b2 : (((W0.alloc (.cells (madeCells #[Value.bool false] D) 4)).alloc (.cells (madeCells #[Value.bool false] D) 4)).drew).heap[W0.heap.size + 1]? = some (.cells (madeCells #[Value.bool false] D) 4 (0, 0)) := by
      rw [heapq_drew, heapq_alloc, if_pos (by simp)]
    have hrN : (((W0.alloc (.cells (madeCells #[Value.bool false] D) 4)).alloc (.cells (madeCells #[Value.bool false] D) 4)).drew).heap[w.heap.size + 1]? = some (.cells #[.bool false, .bool false, .int .i64 0, .slice none 0 0, .slice none 0 0] 28 (0, 0)) := (hbN.block (w.heap.size + 1) (by omega)).trans hr
    generalize hWN : (((W0.alloc (.cells (madeCells #[Value.bool false] D) 4)).alloc (.cells (madeCells #[Value.bool false] D) 4)).drew) = WN at *
    clear hWN
    rw [hs0] at b1 b2
    obtain ⟨t0, t1, t2, t3, t4, q0, q1, q2, q3, q4⟩ := res5 hrN
    have hbw : Below w.heap.size w WN := hb0.trans (hbN.mono (by omega))
    have f1 : (((((WN.setCell ⟨w.heap.size + 1, 0, none⟩ (.bool false)).setCell ⟨w.heap.size + 1, 1, none⟩ (.bool false)).setCell ⟨w.heap.size + 1, 2, none⟩ (.int .i64 place)).setCell ⟨w.heap.size + 1, 3, none⟩ (.slice (some ⟨w.heap.size + 2, 0, none⟩) D D)).setCell ⟨w.heap.size + 1, 4, none⟩ (.slice (some ⟨w.heap.size + 2 + 1, 0, none⟩) D D)).heap[w.heap.size + 2]? = some (.cells (madeCells #[Value.bool false] D) 4 (0, 0)) := by
      rw [heapq_set, if_neg (by omega), heapq_set, if_neg (by omega), heapq_set, if_neg (by omega), heapq_set, if_neg (by omega), heapq_set, if_neg (by omega)]
      exact b1
    have f2 : (((((WN.setCell ⟨w.heap.size + 1, 0, none⟩ (.bool false)).setCell ⟨w.heap.size + 1, 1, none⟩ (.bool false)).setCell ⟨w.heap.size + 1, 2, none⟩ (.int .i64 place)).setCell ⟨w.heap.size + 1, 3, none⟩ (.slice (some ⟨w.heap.size + 2, 0, none⟩) D D)).setCell ⟨w.heap.size + 1, 4, none⟩ (.slice (some ⟨w.heap.size + 2 + 1, 0, none⟩) D D)).heap[w.heap.size + 2 + 1]? = some (.cells (madeCells #[Value.bool false] D) 4 (0, 0)) := by
      rw [heapq_set, if_neg (by omega), heapq_set, if_neg (by omega), heapq_set, if_neg (by omega), heapq_set, if_neg (by omega), heapq_set, if_neg (by omega)]
      exact b2
    have F1 := Rd_of_block f1
    have F2 := Rd_of_block f2
    rw [toList_madeCells_one] at F1 F2
    have HST : Hid (StAt (((((WN.setCell ⟨w.heap.size + 1, 0, none⟩ (.bool false)).setCell ⟨w.heap.size + 1, 1, none⟩ (.bool false)).setCell ⟨w.heap.size + 1, 2, none⟩ (.int .i64 place)).setCell ⟨w.heap.size + 1, 3, none⟩ (.slice (some ⟨w.heap.size + 2, 0, none⟩) D D)).setCell ⟨w.heap.size + 1, 4, none⟩ (.slice (some ⟨w.heap.size + 2 + 1, 0, none⟩) D D)) (((((WN.setCell ⟨w.heap.size + 1, 0, none⟩ (.bool false)).setCell ⟨w.heap.size + 1, 1, none⟩ (.bool false)).setCell ⟨w.heap.size + 1, 2, none⟩ (.int .i64 place)).setCell ⟨w.heap.size + 1, 3, none⟩ (.slice (some ⟨w.heap.size + 2, 0, none⟩) D D)).setCell ⟨w.heap.size + 1, 4, none⟩ (.slice (some ⟨w.heap.size + 2 + 1, 0, none⟩) D D)).heap.size (some ⟨w.heap.size + 2, 0, none⟩) (some ⟨w.heap.size + 2 + 1, 0, none⟩) D D (begin0 D place)) :=
      ⟨by simp [begin0], by simp [begin0], by simpa [begin0] using F1, by simpa [begin0] using F2, by omega, by omega⟩
    have HBF : Hid (Below w.heap.size w (((((WN.setCell ⟨w.heap.size + 1, 0, none⟩ (.bool false)).setCell ⟨w.heap.size + 1, 1, none⟩ (.bool false)).setCell ⟨w.heap.size + 1, 2, none⟩ (.int .i64 place)).setCell ⟨w.heap.size + 1, 3, none⟩ (.slice (some ⟨w.heap.size + 2, 0, none⟩) D D)).setCell ⟨w.heap.size + 1, 4, none⟩ (.slice (some ⟨w.heap.size + 2 + 1, 0, none⟩) D D))) := ((((hbw.setCell (by simp) _).setCell (by simp) _).setCell (by simp) _).setCell (by simp) _).setCell (by simp) _
    clear hrN hbN hb0 hr k0 f1 f2 F1 F2 b1 b2 hbw hs0
    go_wp2
    refine onlyNormal_mk ?_
    go_wp2
    refine bodyPost_ret (v := stV (begin0 D place) (some ⟨w.heap.size + 2, 0, none⟩) (some ⟨w.heap.size + 2 + 1, 0, none⟩) D D D D) (by simp [results, Tryd.results38, go_sem, stV, begin0, t0, t1, t2, t3, t4]) rfl ⟨_, _, _, _, rfl, HST.out, HBF.out⟩
  · unfold wpMid
    simp only [opsAt_nil, opsAt_cons, consOpt_some, List.getElem?_toArray, List.getElem?_cons_zero, List.getElem?_cons_succ]
    go_wp2
    refine onlyNormal_mk ⟨⟨⟨_, ((Below.refl _ _).drew).alloc (by simp) _⟩, rfl⟩, ?_⟩
    refine wpOrders_one (i := 3) (by kernel_rfl) ?_
    unfold wpMid
    simp only [opsAt_nil, opsAt_cons, consOpt_some, List.getElem?_toArray, List.getElem?_cons_zero, List.getElem?_cons_succ]
    go_wp2
    refine onlyNormal_mk ⟨⟨⟨_, (((Below.refl _ _).drew).alloc (by simp) _).alloc (by simp) _⟩, rfl⟩, ?_⟩
    refine wpOrders_zero ?_
    have hbN : Below W0.heap.size W0 (((W0.alloc (.cells (madeCells #[Value.bool false] D) 4)).alloc (.cells (madeCells #[Value.bool false] D) 4)).drew) := (((Below.refl _ _).alloc (by simp) _).alloc (by simp) _).drew
    have b1 : (((W0.alloc (.cells (madeCells #[Value.bool false] D) 4)).alloc (.cells (madeCells #[Value.bool false] D) 4)).drew).heap[W0.heap.size]? = some (.cells (madeCells #[Value.bool false] D) 4 (0, 0)) := by
      rw [heapq_drew, heapq_alloc, if_neg (by simp), heapq_alloc, if_pos rfl]
    have b2 : (((W0.alloc (.cells (madeCells #[Value.bool false] D) 4)).alloc (.cells (madeCells #[Value.bool false] D) 4)).drew).heap[W0.heap.size + 1]? = some (.cells (madeCells #[Value.bool false] D) 4 (0, 0)) := by
      rw [heapq_drew, heapq_alloc, if_pos (by simp)]
    have hrN : (((W0.alloc (.cells (madeCells #[Value.bool false] D) 4)).alloc (.cells (madeCells #[Value.bool false] D) 4)).drew).heap[w.heap.size + 1]? = some (.cells #[.bool false, .bool false, .int .i64 0, .slice none 0 0, .slice none 0 0] 28 (0, 0)) := (hbN.block (w.heap.size + 1) (by omega)).trans hr
    generalize hWN : (((W0.alloc (.cells (madeCells #[Value.bool false] D) 4)).alloc (.cells (madeCells #[Value.bool false] D) 4)).drew) = WN at *
    clear hWN
    rw [hs0] at b1 b2
    obtain ⟨t0, t1, t2, t3, t4, q0, q1, q2, q3, q4⟩ := res5 hrN
    have hbw : Below w.heap.size w WN := hb0.trans (hbN.mono (by omega))
    have f1 : (((((WN.setCell ⟨w.heap.size + 1, 0, none⟩ (.bool false)).setCell ⟨w.heap.size + 1, 1, none⟩ (.bool false)).setCell ⟨w.heap.size + 1, 2, none⟩ (.int .i64 place)).setCell ⟨w.heap.size + 1, 3, none⟩ (.slice (some ⟨w.heap.size + 2 + 1, 0, none⟩) D D)).setCell ⟨w.heap.size + 1, 4, none⟩ (.slice (some ⟨w.heap.size + 2, 0, none⟩) D D)).heap[w.heap.size + 2]? = some (.cells (madeCells #[Value.bool false] D) 4 (0, 0)) := by
      rw [heapq_set, if_neg (by omega), heapq_set, if_neg (by omega), heapq_set, if_neg (by omega), heapq_set, if_neg (by omega), heapq_set, if_neg (by omega)]
      exact b1
    have f2 : (((((WN.setCell ⟨w.heap.size + 1, 0, none⟩ (.bool false)).setCell ⟨w.heap.size + 1, 1, none⟩ (.bool false)).setCell ⟨w.heap.size + 1, 2, none⟩ (.int .i64 place)).setCell ⟨w.heap.size + 1, 3, none⟩ (.slice (some ⟨w.heap.size + 2 + 1, 0, none⟩) D D)).setCell ⟨w.heap.size + 1, 4, none⟩ (.slice (some ⟨w.heap.size + 2, 0, none⟩) D D)).heap[w.heap.size + 2 + 1]? = some (.cells (madeCells #[Value.bool false] D) 4 (0, 0)) := by
      rw [heapq_set, if_neg (by omega), heapq_set, if_neg (by omega), heapq_set, if_neg (by omega), heapq_set, if_neg (by omega), heapq_set, if_neg (by omega)]
      exact b2
    have F1 := Rd_of_block f1
    have F2 := Rd_of_block f2
    rw [toList_madeCells_one] at F1 F2
    have HST : Hid (StAt (((((WN.setCell ⟨w.heap.size + 1, 0, none⟩ (.bool false)).setCell ⟨w.heap.size + 1, 1, none⟩ (.bool false)).setCell ⟨w.heap.size + 1, 2, none⟩ (.int .i64 place)).setCell ⟨w.heap.size + 1, 3, none⟩ (.slice (some ⟨w.heap.size + 2 + 1, 0, none⟩) D D)).setCell ⟨w.heap.size + 1, 4, none⟩ (.slice (some ⟨w.heap.size + 2, 0, none⟩) D D)) (((((WN.setCell ⟨w.heap.size + 1, 0, none⟩ (.bool false)).setCell ⟨w.heap.size + 1, 1, none⟩ (.bool false)).setCell ⟨w.heap.size + 1, 2, none⟩ (.int .i64 place)).setCell ⟨w.heap.size + 1, 3, none⟩ (.slice (some ⟨w.heap.size + 2 + 1, 0, none⟩) D D)).setCell ⟨w.heap.size + 1, 4, none⟩ (.slice (some ⟨w.heap.size + 2, 0, none⟩) D D)).heap.size (some ⟨w.heap.size + 2 + 1, 0, none⟩) (some ⟨w.heap.size + 2, 0, none⟩) D D (begin0 D place)) :=
      ⟨by simp [begin0], by simp [begin0], by simpa [begin0] using F2, by simpa [begin0] using F1, by omega, by omega⟩
    have HBF : Hid (Below w.heap.size w (((((WN.setCell ⟨w.heap.size + 1, 0, none⟩ (.bool false)).setCell ⟨w.heap.size + 1, 1, none⟩ (.bool false)).setCell ⟨w.heap.size + 1, 2, none⟩ (.int .i64 place)).setCell ⟨w.heap.size + 1, 3, none⟩ (.slice (some ⟨w.heap.size + 2 + 1, 0, none⟩) D D)).setCell ⟨w.heap.size + 1, 4, none⟩ (.slice (some ⟨w.heap.size + 2, 0, none⟩) D D))) := ((((hbw.setCell (by simp) _).setCell (by simp) _).setCell (by simp) _).setCell (by simp) _).setCell (by simp) _
    clear hrN hbN hb0 hr k0 f1 f2 F1 F2 b1 b2 hbw hs0
    go_wp2
    refine onlyNormal_mk ?_
    go_wp2
    refine bodyPost_ret (v := stV (begin0 D place) (some ⟨w.heap.size + 2 + 1, 0, none⟩) (some ⟨w.heap.size + 2, 0, none⟩) D D D D) (by simp [results, Tryd.results38, go_sem, stV, begin0, t0, t1, t2, t3, t4]) rfl ⟨_, _, _, _, rfl, HST.out, HBF.out⟩
end Go.Proofs.YtmcjnfghlpnghaaDoor
