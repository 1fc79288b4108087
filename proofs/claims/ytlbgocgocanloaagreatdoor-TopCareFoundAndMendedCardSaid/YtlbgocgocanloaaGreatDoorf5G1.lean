/- The examples that the law of ways out looks at first: they are so. -/
import Derived.Test.YtlbgocgocanloaaGreatDoorf5Z2
namespace Go.Proofs.YtlbgocgocanloaaGreatDoor
open Go.RowKit
set_option maxRecDepth 100000 in
set_option maxHeartbeats 4000000 in
theorem careAwake_any (w : World) (hk : KindsAt w) : Calls Tryz.prog 17 #[] w (AwakePost w) := by
  go_enter Tryz.func17, Tryz.ntmps17
  go_wp2_with fail
  refine (Doors_any w).mono ?_
  rintro e w1 ⟨rfl, hb1⟩
  have hk1 := hk.below hb1
  have hbe : Below w1.heap.size w1 (w1.alloc (.cells #[.int .i64 2, .int .i64 0, .int .i64 0, .int .i64 4, .int .i64 0, .int .i64 0] 23)) := (Below.refl _ _).alloc (Nat.le_refl _) _
  have hk2 := hk1.below hbe
  have ke : (w1.alloc (.cells #[.int .i64 2, .int .i64 0, .int .i64 0, .int .i64 4, .int .i64 0, .int .i64 0] 23)).heap[w1.heap.size]? = some (.cells #[.int .i64 2, .int .i64 0, .int .i64 0, .int .i64 4, .int .i64 0, .int .i64 0] 23 (0, 0)) := by rw [heapq_alloc, if_pos rfl]
  have R := Replay_yes 2 5000 100 5000 (some ⟨w1.heap.size, 0, none⟩) 2 2 _ [(2, 0, 0), (4, 0, 0)] (w1.alloc (.cells #[.int .i64 2, .int .i64 0, .int .i64 0, .int .i64 4, .int .i64 0, .int .i64 0] 23)) (by omega) (by decide +kernel) (by omega) rfl hk2 (Rd_of_block ke) (Nat.le_refl _) (by omega) (by omega)
  unfold ReplayPost at R
  rw [exRun] at R
  have hb2 := hb1.trans (hbe.mono hb1.size)
  have HK := Lib.hid hk2
  clear ke hk hk1 hk2 hbe hb1
  go_wp2_with fail
  refine R.mono ?_
  rintro e w2 ⟨hbr, g, bg, bd, cg, cd, rfl, ht⟩
  have hst := ht.st (by omega)
  have hb3 := hb2.trans (hbr.mono hb2.size)
  have HST := Lib.hid hst
  have HB3 := Lib.hid hb3
  clear R hb2 hbr hst hb3 ht HK
  simp only [trSt]
  go_upto_region 2 with (fail)
  have hb4 : Below w.heap.size w (w2.alloc (.cells #[.bool exS.mv, .bool exS.al, .int .i64 exS.place, .slice (some ⟨bg, 0, none⟩) 2 cg, .slice (some ⟨bd, 0, none⟩) 2 cd] 52)) := HB3.out.alloc HB3.out.size _
  have hst4 : StAt (w2.alloc (.cells #[.bool exS.mv, .bool exS.al, .int .i64 exS.place, .slice (some ⟨bg, 0, none⟩) 2 cg, .slice (some ⟨bd, 0, none⟩) 2 cd] 52)) w2.heap.size (some ⟨bg, 0, none⟩) (some ⟨bd, 0, none⟩) 2 2 exS := HST.out.below ((Below.refl _ _).alloc (Nat.le_refl _) _)
  have ky4 : (w2.alloc (.cells #[.bool exS.mv, .bool exS.al, .int .i64 exS.place, .slice (some ⟨bg, 0, none⟩) 2 cg, .slice (some ⟨bd, 0, none⟩) 2 cd] 52)).heap[w2.heap.size]? = some (.cells #[.bool exS.mv, .bool exS.al, .int .i64 exS.place, .slice (some ⟨bg, 0, none⟩) 2 cg, .slice (some ⟨bd, 0, none⟩) 2 cd] 52 (0, 0)) := by rw [heapq_alloc, if_pos rfl]
  have hy4 : w2.heap.size < (w2.alloc (.cells #[.bool exS.mv, .bool exS.al, .int .i64 exS.place, .slice (some ⟨bg, 0, none⟩) 2 cg, .slice (some ⟨bd, 0, none⟩) 2 cd] 52)).heap.size := by simp
  generalize (w2.alloc (.cells #[.bool exS.mv, .bool exS.al, .int .i64 exS.place, .slice (some ⟨bg, 0, none⟩) 2 cg, .slice (some ⟨bd, 0, none⟩) 2 cd] 52)) = w4 at *
  generalize w2.heap.size = y at *
  have HB4 := Lib.hid hb4
  have HST4 := Lib.hid hst4
  have KY4 := Lib.hid ky4
  clear hb4 hst4 ky4
  go_wp2_with fail
  refine (Rooms_any w4).mono ?_
  rintro e w5 ⟨g1, g2, rfl, hr1, hr2, hb5⟩
  have L5 := LeastTime_ex w5 w5.heap.size (some ⟨g1, 0, none⟩) (some ⟨g2, 0, none⟩) 2 2 hr1 hr2 (Nat.le_refl _)
  have HB5 := Lib.hid hb5
  clear hr1 hr2 hb5
  go_upto_region 3 with (go_at_call 27; refine L5.mono ?_; rintro e w6 ⟨rfl, hb6⟩)
  have HB6 := Lib.hid (HB5.out.trans (hb6.mono HB5.out.size))
  have hy6 : y < w6.heap.size := by have h1 := HB5.out.size; have h2 := hb6.size; omega
  have ky6 : w6.heap[y]? = some (.cells #[.bool exS.mv, .bool exS.al, .int .i64 exS.place, .slice (some ⟨bg, 0, none⟩) 2 cg, .slice (some ⟨bd, 0, none⟩) 2 cd] 52 (0, 0)) := by
    rw [HB6.out.block y hy4]
    exact KY4.out
  have hst6 := HST4.out.below (HB6.out.mono (by omega))
  obtain ⟨c0, c1, c2, c3, c4⟩ := cells5 ky6
  obtain ⟨b0, o0, hb0, _, hd0⟩ := hst6.rd 0 (.bool true) rfl
  obtain ⟨rfl, rfl⟩ : bd = b0 ∧ 0 = o0 := by cases hb0; exact ⟨rfl, rfl⟩
  simp at hd0
  simp only [exS] at c0 c1 c2 c3 c4
  clear L5 hb6 HB5 ky6 hst6 KY4 HST4 HST
  go_wp2_with fail
  go_ret
  exact ⟨rfl, HB4.out.trans (HB6.out.mono HB4.out.size)⟩
end Go.Proofs.YtlbgocgocanloaaGreatDoor
