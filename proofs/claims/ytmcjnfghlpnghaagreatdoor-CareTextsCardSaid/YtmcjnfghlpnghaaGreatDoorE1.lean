/- The examples: what they come to. -/
import Derived.Test.YtmcjnfghlpnghaaGreatDoorW6
import Derived.Test.YtmcjnfghlpnghaaGreatDoorD4
namespace Go.Proofs.YtmcjnfghlpnghaaGreatDoor
open Go.RowKit
def exL : List Dep := [(0, 0), (1000, 100), (400, 0)]
def exD : List Int := [0, 1, 2]
theorem exSort : sortI [0, 2000, 0, 1100, 400, 900, 2000, 1300, 400, 1500, 800] = [0, 0, 400, 400, 800, 900, 1100, 1300, 1500, 2000, 2000] := by
  simp [sortI, List.mergeSort, List.MergeSort.Internal.splitInTwo]
theorem exMeet : meetI exL 1000 (exD.map Int.toNat) [0, 2 * 1000] (exD.map Int.toNat) = [0, 2000, 0, 1100, 400, 900, 2000, 1300, 400, 1500, 800] := by decide +kernel
theorem exWorst : worstM exL 1000 (exD.map Int.toNat) = (1500, 700) := by
  unfold worstM
  rw [exMeet, exSort]
  decide +kernel
theorem exRescue : rescueM 1000 exL = 0 := by decide +kernel
theorem exDeps : depsGo 3 (-1) exD = 0 := by decide +kernel
theorem Doors_any (w : World) : Calls Tryz.prog 38 #[] w fun e w' => e = .returned (.agg #[.int .i64 2, .int .i64 5000, .int .i64 100]) ∧ Below w.heap.size w w' := by
  go_enter Tryz.func38, Tryz.ntmps38
  go_wp2
  refine bodyPost_ret (v := .agg #[.int .i64 2, .int .i64 5000, .int .i64 100]) (by simp [results, Tryz.results38, go_sem]) rfl ⟨rfl, (Below.refl _ _).alloc (Nat.le_refl _) _⟩
def RoomsAt (w : World) (e : Ending) (w' : World) : Prop :=
  ∃ g1 g2, e = .returned (.agg #[.slice (some ⟨g1, 0, none⟩) 2 2, .slice (some ⟨g2, 0, none⟩) 2 2]) ∧ Rd w' w'.heap.size (some ⟨g1, 0, none⟩) (intCells exP) ∧ Rd w' w'.heap.size (some ⟨g2, 0, none⟩) (evCells exW) ∧ Below w.heap.size w w'
theorem Rd_of_block {w : World} {g : Nat} {cs : Array Value} {t : TypeId} {fr : Nat × Nat} (h : w.heap[g]? = some (.cells cs t fr)) : Rd w w.heap.size (some ⟨g, 0, none⟩) cs.toList := fun k u hk => by
  refine ⟨g, 0, rfl, lt_of_block h, ?_⟩
  rw [cell_of_row w g (0 + k) _ _ _ h, Nat.zero_add]
  simpa using hk
theorem Rooms_any (w : World) : Calls Tryz.prog 39 #[] w (RoomsAt w) := by
  go_enter Tryz.func39, Tryz.ntmps39
  go_wp2
  have k1 : (((w.alloc (Obj.cells #[Value.slice (some { block := w.heap.size + 1, off := 0 }) 2 2, Value.slice (some { block := w.heap.size + 1 + 1, off := 0 }) 2 2] 65)).alloc (Obj.cells #[Value.int IntKind.i64 10, Value.int IntKind.i64 5] 3)).alloc (Obj.cells #[Value.int IntKind.i64 0, Value.int IntKind.i64 1, Value.int IntKind.i64 4, Value.int IntKind.i64 1, Value.int IntKind.i64 (-1), Value.int IntKind.i64 3] 146)).heap[w.heap.size + 1]? = some (.cells #[Value.int IntKind.i64 10, Value.int IntKind.i64 5] 3 (0, 0)) := by
    rw [heapq_alloc, if_neg (by simp), heapq_alloc, if_pos (by simp)]
  have k2 : (((w.alloc (Obj.cells #[Value.slice (some { block := w.heap.size + 1, off := 0 }) 2 2, Value.slice (some { block := w.heap.size + 1 + 1, off := 0 }) 2 2] 65)).alloc (Obj.cells #[Value.int IntKind.i64 10, Value.int IntKind.i64 5] 3)).alloc (Obj.cells #[Value.int IntKind.i64 0, Value.int IntKind.i64 1, Value.int IntKind.i64 4, Value.int IntKind.i64 1, Value.int IntKind.i64 (-1), Value.int IntKind.i64 3] 146)).heap[w.heap.size + 1 + 1]? = some (.cells #[Value.int IntKind.i64 0, Value.int IntKind.i64 1, Value.int IntKind.i64 4, Value.int IntKind.i64 1, Value.int IntKind.i64 (-1), Value.int IntKind.i64 3] 146 (0, 0)) := by
    rw [heapq_alloc, if_pos (by simp)]
  have hb : Below w.heap.size w (((w.alloc (Obj.cells #[Value.slice (some { block := w.heap.size + 1, off := 0 }) 2 2, Value.slice (some { block := w.heap.size + 1 + 1, off := 0 }) 2 2] 65)).alloc (Obj.cells #[Value.int IntKind.i64 10, Value.int IntKind.i64 5] 3)).alloc (Obj.cells #[Value.int IntKind.i64 0, Value.int IntKind.i64 1, Value.int IntKind.i64 4, Value.int IntKind.i64 1, Value.int IntKind.i64 (-1), Value.int IntKind.i64 3] 146)) := (((Below.refl _ _).alloc (Nat.le_refl _) _).alloc (by simp) _).alloc (by simp; omega) _
  refine bodyPost_ret (v := .agg #[.slice (some ⟨w.heap.size + 1, 0, none⟩) 2 2, .slice (some ⟨w.heap.size + 1 + 1, 0, none⟩) 2 2]) (by simp [results, Tryz.results39, go_sem]) rfl ⟨_, _, rfl, Rd_of_block k1, Rd_of_block k2, hb⟩
def AwakePost (w : World) (e : Ending) (w' : World) : Prop := e = .returned (.bool true) ∧ Below w.heap.size w w'
theorem TrainAt.st {w : World} {B g bg bd cg cd D : Nat} {T S : Int} {s : Tr} (h : TrainAt w B g bg bd cg cd D T S s) (hD : D ≤ 1000000000) : StAt w w.heap.size (some ⟨bg, 0, none⟩) (some ⟨bd, 0, none⟩) D D s :=
  ⟨h.lenG, h.lenD, h.rdG, h.rdD, hD, hD⟩
def exS : Tr := ⟨false, false, 5000, [true, false], [true, false]⟩
theorem exRun : runTr 2 5000 100 ⟨false, false, 5000, List.replicate 2 false, List.replicate 2 false⟩ [(2, 0, 0), (4, 0, 0)] 0 = .inr exS := by rfl
set_option maxRecDepth 100000 in
set_option maxHeartbeats 4000000 in
theorem awake_any (w : World) (hk : KindsAt w) : Calls Tryz.prog 6 #[] w (AwakePost w) := by
  go_enter Tryz.func6, Tryz.ntmps6
  go_wp2_with fail
  refine (Doors_any w).mono ?_
  rintro e w1 ⟨rfl, hb1⟩
  have hk1 := hk.below hb1
  have hbe : Below w1.heap.size w1 (w1.alloc (.cells #[.int .i64 2, .int .i64 0, .int .i64 0, .int .i64 4, .int .i64 0, .int .i64 0] 23)) := (Below.refl _ _).alloc (Nat.le_refl _) _
  have hk2 := hk1.below hbe
  have ke : (w1.alloc (.cells #[.int .i64 2, .int .i64 0, .int .i64 0, .int .i64 4, .int .i64 0, .int .i64 0] 23)).heap[w1.heap.size]? = some (.cells #[.int .i64 2, .int .i64 0, .int .i64 0, .int .i64 4, .int .i64 0, .int .i64 0] 23 (0, 0)) := by rw [heapq_alloc, if_pos rfl]
  have R := Replay_yes 2 5000 100 5000 (some ⟨w1.heap.size, 0, none⟩) 2 2 _ [(2, 0, 0), (4, 0, 0)] (w1.alloc (.cells #[.int .i64 2, .int .i64 0, .int .i64 0, .int .i64 4, .int .i64 0, .int .i64 0] 23)) (by omega) (by decide +kernel) (by omega) rfl hk2 (Rd_of_block ke) (Nat.le_refl _) (by omega) (by omega)
  unfold ReplayPost at R
  rw [exRun] at R
  have hb2 := hb1.trans (hbe.mono hb1.size)
  have HK := Lib.hid hk2
  clear ke hk hk1 hk2 hbe hb1
  go_wp2_with fail
  refine R.mono ?_
  rintro e w2 ⟨hbr, g, bg, bd, cg, cd, rfl, ht⟩
  have hst := ht.st (by omega)
  have hb3 := hb2.trans (hbr.mono hb2.size)
  have HST := Lib.hid hst
  have HB3 := Lib.hid hb3
  clear R hb2 hbr hst hb3 ht HK
  simp only [trSt]
  go_upto_region 2 with (fail)
  have hb4 : Below w.heap.size w (w2.alloc (.cells #[.bool exS.mv, .bool exS.al, .int .i64 exS.place, .slice (some ⟨bg, 0, none⟩) 2 cg, .slice (some ⟨bd, 0, none⟩) 2 cd] 52)) := HB3.out.alloc HB3.out.size _
  have hst4 : StAt (w2.alloc (.cells #[.bool exS.mv, .bool exS.al, .int .i64 exS.place, .slice (some ⟨bg, 0, none⟩) 2 cg, .slice (some ⟨bd, 0, none⟩) 2 cd] 52)) w2.heap.size (some ⟨bg, 0, none⟩) (some ⟨bd, 0, none⟩) 2 2 exS := HST.out.below ((Below.refl _ _).alloc (Nat.le_refl _) _)
  have ky4 : (w2.alloc (.cells #[.bool exS.mv, .bool exS.al, .int .i64 exS.place, .slice (some ⟨bg, 0, none⟩) 2 cg, .slice (some ⟨bd, 0, none⟩) 2 cd] 52)).heap[w2.heap.size]? = some (.cells #[.bool exS.mv, .bool exS.al, .int .i64 exS.place, .slice (some ⟨bg, 0, none⟩) 2 cg, .slice (some ⟨bd, 0, none⟩) 2 cd] 52 (0, 0)) := by rw [heapq_alloc, if_pos rfl]
  have hy4 : w2.heap.size < (w2.alloc (.cells #[.bool exS.mv, .bool exS.al, .int .i64 exS.place, .slice (some ⟨bg, 0, none⟩) 2 cg, .slice (some ⟨bd, 0, none⟩) 2 cd] 52)).heap.size := by simp
  generalize (w2.alloc (.cells #[.bool exS.mv, .bool exS.al, .int .i64 exS.place, .slice (some ⟨bg, 0, none⟩) 2 cg, .slice (some ⟨bd, 0, none⟩) 2 cd] 52)) = w4 at *
  generalize w2.heap.size = y at *
  have HB4 := Lib.hid hb4
  have HST4 := Lib.hid hst4
  have KY4 := Lib.hid ky4
  clear hb4 hst4 ky4
  go_wp2_with fail
  refine (Rooms_any w4).mono ?_
  rintro e w5 ⟨g1, g2, rfl, hr1, hr2, hb5⟩
  have L5 := LeastTime_ex w5 w5.heap.size (some ⟨g1, 0, none⟩) (some ⟨g2, 0, none⟩) 2 2 hr1 hr2 (Nat.le_refl _)
  have HB5 := Lib.hid hb5
  clear hr1 hr2 hb5
  go_upto_region 3 with (go_at_call 27; refine L5.mono ?_; rintro e w6 ⟨rfl, hb6⟩)
  have HB6 := Lib.hid (HB5.out.trans (hb6.mono HB5.out.size))
  clear L5 hb6 HB5
  have k1 : ((w6.alloc (.cells #[.int .i64 0, .int .i64 0, .int .i64 1000, .int .i64 100, .int .i64 400, .int .i64 0] 94)).alloc (.cells #[.int .i64 0, .int .i64 1, .int .i64 2] 3)).heap[w6.heap.size]? = some (.cells #[.int .i64 0, .int .i64 0, .int .i64 1000, .int .i64 100, .int .i64 400, .int .i64 0] 94 (0, 0)) := by
    rw [heapq_alloc, if_neg (by simp), heapq_alloc, if_pos rfl]
  have k2 : ((w6.alloc (.cells #[.int .i64 0, .int .i64 0, .int .i64 1000, .int .i64 100, .int .i64 400, .int .i64 0] 94)).alloc (.cells #[.int .i64 0, .int .i64 1, .int .i64 2] 3)).heap[w6.heap.size + 1]? = some (.cells #[.int .i64 0, .int .i64 1, .int .i64 2] 3 (0, 0)) := by
    rw [heapq_alloc, if_pos (by simp)]
  have hb7 : Below w6.heap.size w6 ((w6.alloc (.cells #[.int .i64 0, .int .i64 0, .int .i64 1000, .int .i64 100, .int .i64 400, .int .i64 0] 94)).alloc (.cells #[.int .i64 0, .int .i64 1, .int .i64 2] 3)) := ((Below.refl _ _).alloc (Nat.le_refl _) _).alloc (by simp) _
  have C := WorstPlace_yes ((w6.alloc (.cells #[.int .i64 0, .int .i64 0, .int .i64 1000, .int .i64 100, .int .i64 400, .int .i64 0] 94)).alloc (.cells #[.int .i64 0, .int .i64 1, .int .i64 2] 3)) _ 1000 (some ⟨w6.heap.size, 0, none⟩) (some ⟨w6.heap.size + 1, 0, none⟩) 3 3 3 3 exL exD rfl rfl (Rd_of_block k1) (Rd_of_block k2) (Nat.le_refl _) exRescue (by omega) exDeps
  rw [exWorst] at C
  have HB7 := Lib.hid (HB6.out.trans (hb7.mono HB6.out.size))
  clear k1 k2 hb7
  go_upto_region 4 with (go_at_call 40; refine C.mono ?_; rintro e w7 ⟨rfl, hb8⟩)
  have hb9 := (HB7.out.trans (hb8.mono HB7.out.size)).alloc (by have h1 := HB7.out.size; have h2 := hb8.size; omega) (.cells #[.int .i64 1500, .int .i64 700] 90)
  have ky9 : (w7.alloc (.cells #[.int .i64 1500, .int .i64 700] 90)).heap[y]? = some (.cells #[.bool exS.mv, .bool exS.al, .int .i64 exS.place, .slice (some ⟨bg, 0, none⟩) 2 cg, .slice (some ⟨bd, 0, none⟩) 2 cd] 52 (0, 0)) := by
    rw [hb9.block y hy4]
    exact KY4.out
  have kz9 : (w7.alloc (.cells #[.int .i64 1500, .int .i64 700] 90)).heap[w7.heap.size]? = some (.cells #[.int .i64 1500, .int .i64 700] 90 (0, 0)) := by rw [heapq_alloc, if_pos rfl]
  have hz9 : w7.heap.size < (w7.alloc (.cells #[.int .i64 1500, .int .i64 700] 90)).heap.size := by simp
  have hst9 := HST4.out.below (hb9.mono (by omega))
  generalize w7.alloc (.cells #[.int .i64 1500, .int .i64 700] 90) = w9 at *
  generalize w7.heap.size = z at *
  have HB9 := Lib.hid hb9
  have HST9 := Lib.hid hst9
  obtain ⟨c0, c1, c2, c3, c4⟩ := cells5 ky9
  have d0 := cell_of_row w9 z 0 _ _ _ kz9
  have d1 := cell_of_row w9 z 1 _ _ _ kz9
  simp at d0 d1
  clear C hb8 hb9 hst9 ky9 kz9
  have k1 : ((w9.alloc (.cells #[.bool true, .bool false] 4)).alloc (.cells #[.bool true, .bool false] 4)).heap[w9.heap.size]? = some (.cells #[.bool true, .bool false] 4 (0, 0)) := by
    rw [heapq_alloc, if_neg (by simp), heapq_alloc, if_pos rfl]
  have k2 : ((w9.alloc (.cells #[.bool true, .bool false] 4)).alloc (.cells #[.bool true, .bool false] 4)).heap[w9.heap.size + 1]? = some (.cells #[.bool true, .bool false] 4 (0, 0)) := by
    rw [heapq_alloc, if_pos (by simp)]
  have hb10 : Below w9.heap.size w9 ((w9.alloc (.cells #[.bool true, .bool false] 4)).alloc (.cells #[.bool true, .bool false] 4)) := ((Below.refl _ _).alloc (Nat.le_refl _) _).alloc (by simp) _
  have hs10 : ((w9.alloc (.cells #[.bool true, .bool false] 4)).alloc (.cells #[.bool true, .bool false] 4)).heap.size = w9.heap.size + 2 := by simp
  have yle : y ≤ w9.heap.size := by have := HB9.out.size; have := lt_of_cell c0; simp at this; omega
  have S := Same_any ((w9.alloc (.cells #[.bool true, .bool false] 4)).alloc (.cells #[.bool true, .bool false] 4)) ((w9.alloc (.cells #[.bool true, .bool false] 4)).alloc (.cells #[.bool true, .bool false] 4)).heap.size (some ⟨bg, 0, none⟩) (some ⟨bd, 0, none⟩) (some ⟨w9.heap.size, 0, none⟩) (some ⟨w9.heap.size + 1, 0, none⟩) 2 2 cg cd 2 2 2 2 exS exS
    ((HST9.out.below (hb10.mono (by omega))).mono (by omega)) ⟨rfl, rfl, Rd_of_block k1, Rd_of_block k2, by omega, by omega⟩ (Nat.le_refl _)
  rw [show sameB exS exS = true by decide] at S
  have d0' := kept hb10 d0
  have d1' := kept hb10 d1
  have HB10 := Lib.hid (HB9.out.trans (hb10.mono HB9.out.size))
  clear k1 k2 hb10 hs10 yle
  unfold stV at S
  have eq1 : ∀ W : World, Sem.run Tryz.prog (Op.equalIn 10000 90 (.agg #[.int .i64 1500, .int .i64 700]) (.agg #[.int .i64 1500, .int .i64 700])) W = .ok true W := fun _ => by kernel_rfl
  go_wp2_with (go_at_call 23; refine S.mono ?_; rintro e w11 ⟨rfl, hb11⟩; have d0'' := kept hb11 d0'; have d1'' := kept hb11 d1')
  go_ret
  exact ⟨rfl, HB4.out.trans ((HB10.out.trans (hb11.mono HB10.out.size)).mono HB4.out.size)⟩
end Go.Proofs.YtmcjnfghlpnghaaGreatDoor
