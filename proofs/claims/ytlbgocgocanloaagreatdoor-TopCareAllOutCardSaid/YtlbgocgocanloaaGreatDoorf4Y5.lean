/- Apply. -/
import Derived.Test.YtlbgocgocanloaaGreatDoorf4Y4
import Derived.Test.YtlbgocgocanloaaGreatDoorf4X10
namespace Go.Proofs.YtlbgocgocanloaaGreatDoor
open Go.RowKit
/-- the error of an event in a state -/
def fullE (D T S : Int) (s : Tr) (k pl dr : Int) : Int := if chkE D T S s = 0 then applyE D.toNat T S s k pl dr else chkE D T S s
set_option maxRecDepth 100000 in
set_option maxHeartbeats 8000000 in
theorem Apply_any (w : World) (B : Nat) (D T S : Int) (Ag Ad : Option Addr) (ng nd cg cd : Nat) (s : Tr) (k pl dr : Int) (h : StAt w B Ag Ad ng nd s) (hB : B ≤ w.heap.size) (hk : KindsAt w) :
    Calls Tryz.prog 25 #[.agg #[.int .i64 D, .int .i64 T, .int .i64 S], stV s Ag Ad ng nd cg cd, .agg #[.int .i64 k, .int .i64 pl, .int .i64 dr]] w (RApplyPost w D.toNat (applyS s k pl dr) (fullE D T S s k pl dr)) := by
  have hb0 : Below w.heap.size w ((((w.alloc (.cells #[.int .i64 D, .int .i64 T, .int .i64 S] 40)).alloc (.cells #[.bool s.mv, .bool s.al, .int .i64 s.place, .slice Ag ng cg, .slice Ad nd cd] 52)).alloc (.cells #[.int .i64 k, .int .i64 pl, .int .i64 dr] 23)).alloc (.cells #[.bool false, .bool false, .int .i64 0, .slice none 0 0, .slice none 0 0] 52)) :=
    ((((Below.refl _ _).alloc (Nat.le_refl _) _).alloc (by simp) _).alloc (by simp; omega) _).alloc (by simp; omega) _
  have k0 : ((((w.alloc (.cells #[.int .i64 D, .int .i64 T, .int .i64 S] 40)).alloc (.cells #[.bool s.mv, .bool s.al, .int .i64 s.place, .slice Ag ng cg, .slice Ad nd cd] 52)).alloc (.cells #[.int .i64 k, .int .i64 pl, .int .i64 dr] 23)).alloc (.cells #[.bool false, .bool false, .int .i64 0, .slice none 0 0, .slice none 0 0] 52)).heap[w.heap.size]? = some (.cells #[.int .i64 D, .int .i64 T, .int .i64 S] 40 (0, 0)) := by
    rw [heapq_alloc, if_neg (by simp; omega), heapq_alloc, if_neg (by simp; omega), heapq_alloc, if_neg (by simp), heapq_alloc, if_pos rfl]
  have k1 : ((((w.alloc (.cells #[.int .i64 D, .int .i64 T, .int .i64 S] 40)).alloc (.cells #[.bool s.mv, .bool s.al, .int .i64 s.place, .slice Ag ng cg, .slice Ad nd cd] 52)).alloc (.cells #[.int .i64 k, .int .i64 pl, .int .i64 dr] 23)).alloc (.cells #[.bool false, .bool false, .int .i64 0, .slice none 0 0, .slice none 0 0] 52)).heap[w.heap.size + 1]? = some (.cells #[.bool s.mv, .bool s.al, .int .i64 s.place, .slice Ag ng cg, .slice Ad nd cd] 52 (0, 0)) := by
    rw [heapq_alloc, if_neg (by simp), heapq_alloc, if_neg (by simp), heapq_alloc, if_pos (by simp)]
  have k2 : ((((w.alloc (.cells #[.int .i64 D, .int .i64 T, .int .i64 S] 40)).alloc (.cells #[.bool s.mv, .bool s.al, .int .i64 s.place, .slice Ag ng cg, .slice Ad nd cd] 52)).alloc (.cells #[.int .i64 k, .int .i64 pl, .int .i64 dr] 23)).alloc (.cells #[.bool false, .bool false, .int .i64 0, .slice none 0 0, .slice none 0 0] 52)).heap[w.heap.size + 2]? = some (.cells #[.int .i64 k, .int .i64 pl, .int .i64 dr] 23 (0, 0)) := by
    rw [heapq_alloc, if_neg (by simp), heapq_alloc, if_pos (by simp)]
  have k3 : ((((w.alloc (.cells #[.int .i64 D, .int .i64 T, .int .i64 S] 40)).alloc (.cells #[.bool s.mv, .bool s.al, .int .i64 s.place, .slice Ag ng cg, .slice Ad nd cd] 52)).alloc (.cells #[.int .i64 k, .int .i64 pl, .int .i64 dr] 23)).alloc (.cells #[.bool false, .bool false, .int .i64 0, .slice none 0 0, .slice none 0 0] 52)).heap[w.heap.size + 3]? = some (.cells #[.bool false, .bool false, .int .i64 0, .slice none 0 0, .slice none 0 0] 52 (0, 0)) := by
    rw [heapq_alloc, if_pos (by simp)]
  have hs0 : ((((w.alloc (.cells #[.int .i64 D, .int .i64 T, .int .i64 S] 40)).alloc (.cells #[.bool s.mv, .bool s.al, .int .i64 s.place, .slice Ag ng cg, .slice Ad nd cd] 52)).alloc (.cells #[.int .i64 k, .int .i64 pl, .int .i64 dr] 23)).alloc (.cells #[.bool false, .bool false, .int .i64 0, .slice none 0 0, .slice none 0 0] 52)).heap.size = w.heap.size + 4 := by simp
  obtain ⟨d0, d1, d2⟩ := cells3w k0
  obtain ⟨c0, c1, c2, c3, c4⟩ := cells5 k1
  obtain ⟨v0, v1, v2⟩ := cells3w k2
  have h1 := h.below (hb0.mono hB)
  have hk1 := hk.below hb0
  have HB := Lib.hid hb0
  have HS := Lib.hid h1
  have n1 := h.ng1
  have n2 := h.nd1
  have HG := Lib.hid h.lg
  have HD := Lib.hid h.ld
  have HZ := Lib.hid k3
  clear k0 k1 k2 k3 hb0 h h1 hk
  go_enter Tryz.func25, Tryz.ntmps25
  simp only [stV]
  go_upto_region 1 with (fail)
  generalize ((((w.alloc (.cells #[.int .i64 D, .int .i64 T, .int .i64 S] 40)).alloc (.cells #[.bool s.mv, .bool s.al, .int .i64 s.place, .slice Ag ng cg, .slice Ad nd cd] 52)).alloc (.cells #[.int .i64 k, .int .i64 pl, .int .i64 dr] 23)).alloc (.cells #[.bool false, .bool false, .int .i64 0, .slice none 0 0, .slice none 0 0] 52)) = w0 at *
  have HS0 := Lib.hid hs0
  have hsl : B ≤ w0.heap.size := by omega
  have hsw : w.heap.size ≤ w0.heap.size := by omega
  clear hs0
  by_cases h0 : preE D T S s.place ng nd = 0
  · obtain ⟨d, rfl, rfl, rfl⟩ := preE_len h0
    have z := h0
    unfold preE at z
    simp only [firstE_cons, firstE_nil, and_true] at z
    obtain ⟨⟨z1, z2⟩, z3, z4⟩ := doorsE_zero z.1
    have zp := placeE_zero z.2.1
    have C := openT_yes w0 B d T S Ag Ad cg cd s HS.out hsl h0
    simp only [stV] at C
    have hV := preE_zero HG.out HD.out h0
    by_cases hp : postE T S s = 0
    · have hF : fullE d T S s k pl dr = applyE d T S s k pl dr := by
        unfold fullE
        rw [hV, hp, if_pos rfl]
        rfl
      have HF := Lib.hid hF
      clear hF hV h0 z
      unfold OpenYes at C
      simp only [hp] at C
      clear hp
      go_wp2_with fail
      refine C.mono ?_
      rintro e w1 ⟨g, bg, bd, cg', cd', rfl, hT, hb1⟩
      have v0' := kept hb1 v0
      have v1' := kept hb1 v1
      have v2' := kept hb1 v2
      have hk2 := hk1.below hb1
      clear C v0 v1 v2 c0 c1 c2 c3 c4 d0 d1 d2 hk1 HS
      go_wp2_with fail
      refine (apply_any w1 k pl dr hb1.size (by omega) hk2 hT zp z3).mono ?_
      rintro e w2 ⟨rfl, hT2, hb2⟩
      have hZ2 := ((hb1.trans hb2).block (w.heap.size + 3) (by have := HS0.out; omega)).trans HZ.out
      clear v0' v1' v2' hk2 hT HZ
      have HB2 := Lib.hid (hb1.trans hb2)
      clear hb1 hb2
      by_cases ha : applyE d T S s k pl dr = 0
      · have hT3 := hT2 ha
        have HA := Lib.hid ha
        rw [ha]
        clear ha hT2
        go_wp2_with fail
        refine (told_ok w2 hT3).mono ?_
        rintro e w3 ⟨rfl, hb3⟩
        have hT4 := hT3.below hb3
        have hZ3 := (hb3.block (w.heap.size + 3) (lt_of_block hZ2)).trans hZ2
        obtain ⟨t0, t1, t2, t3, t4, q0, q1, q2, q3, q4⟩ := res5 hZ3
        have HB3 := Lib.hid (HB.out.trans ((HB2.out.trans (hb3.mono HB2.out.size)).mono hsw))
        have hB0 := hT4.hB
        have hbg := hT4.bgLt
        have hbd := hT4.bdLt
        have hne := hT4.ne
        rw [HS0.out] at hB0 hbg hbd
        have OG := Lib.hid (ownsRow_more hT4.gates (show w.heap.size + 4 ≤ w0.heap.size by rw [HS0.out]; exact Nat.le_refl _))
        have OD := Lib.hid (ownsRow_more hT4.doors (show w.heap.size + 4 ≤ w0.heap.size by rw [HS0.out]; exact Nat.le_refl _))
        clear hZ2 hZ3 hb3 hT3 hT4
        simp only [trSt]
        go_wp2
        refine bodyPost_ret (v := .tuple #[stV (applyS s k pl dr) (some ⟨bg, 0, none⟩) (some ⟨bd, 0, none⟩) d d cg' cd', .int .i64 0]) (by simp [results, Tryz.results25, go_sem, stV, t0, t1, t2, t3, t4]) rfl ⟨⟨_, by rw [HF.out, HA.out], ?_⟩, ?_⟩
        · rw [HF.out, HA.out, if_pos rfl]
          refine ⟨bg, bd, cg', cd', rfl, ?_⟩
          have l : w.heap.size + 3 < w.heap.size + 4 := by omega
          have o0 : OwnSt w3 (w.heap.size + 4) bg bd d d cg' cd' (applyS s k pl dr) := ⟨OG.out, OD.out, hne⟩
          exact (((((o0.far (p := ⟨w.heap.size + 3, 0, none⟩) l _).far (p := ⟨w.heap.size + 3, 1, none⟩) l _).far (p := ⟨w.heap.size + 3, 2, none⟩) l _).far (p := ⟨w.heap.size + 3, 3, none⟩) l _).far (p := ⟨w.heap.size + 3, 4, none⟩) l _).more (by omega)
        · exact (((((HB3.out.setCell (by simp; omega) _).setCell (by simp; omega) _).setCell (by simp; omega) _).setCell (by simp; omega) _).setCell (by simp; omega) _)
      · have HA := Lib.hid ha
        generalize applyE d T S s k pl dr = E at *
        clear hT2
        go_wp2_with fail
        refine (told_err w2 _ E ha).mono ?_
        rintro e w3 ⟨rfl, hb3⟩
        have hZ3 := (hb3.block (w.heap.size + 3) (lt_of_block hZ2)).trans hZ2
        obtain ⟨t0, t1, t2, t3, t4, q0, q1, q2, q3, q4⟩ := res5 hZ3
        have HB3 := Lib.hid (HB.out.trans ((HB2.out.trans (hb3.mono HB2.out.size)).mono hsw))
        clear hZ2 hZ3 hb3
        simp only [zeroSt]
        go_wp2
        refine bodyPost_ret (v := .tuple #[zeroSt, .int .i64 E]) (by simp [results, Tryz.results25, go_sem, zeroSt, t0, t1, t2, t3, t4]) rfl ⟨⟨_, by rw [HF.out], by rw [HF.out, if_neg HA.out]⟩, ?_⟩
        exact (((((HB3.out.setCell (by simp; omega) _).setCell (by simp; omega) _).setCell (by simp; omega) _).setCell (by simp; omega) _).setCell (by simp; omega) _)
    · have hF : fullE d T S s k pl dr = postE T S s := by
        unfold fullE
        rw [hV, if_neg hp]
      have HF := Lib.hid hF
      have HP := Lib.hid hp
      have hp1 : (postE T S s == 0) = false := beq_eq_false_iff_ne.2 hp
      clear hF hV h0 z
      unfold OpenYes at C
      generalize postE T S s = E at *
      go_wp2_with fail
      refine C.mono ?_
      rintro e w1 ⟨g, bg, bd, cg', cd', rfl, _, hb1⟩
      have hZ2 := (hb1.block (w.heap.size + 3) (by have := HS0.out; omega)).trans HZ.out
      clear C v0 v1 v2 c0 c1 c2 c3 c4 d0 d1 d2 hk1 HS HZ
      go_wp2_with fail
      refine (told_err w1 _ E hp).mono ?_
      rintro e w3 ⟨rfl, hb3⟩
      have hZ3 := (hb3.block (w.heap.size + 3) (lt_of_block hZ2)).trans hZ2
      obtain ⟨t0, t1, t2, t3, t4, q0, q1, q2, q3, q4⟩ := res5 hZ3
      have HB3 := Lib.hid (HB.out.trans ((hb1.trans (hb3.mono hb1.size)).mono hsw))
      clear hZ2 hZ3 hb3 hb1 hp hp1
      simp only [zeroSt]
      go_wp2
      refine bodyPost_ret (v := .tuple #[zeroSt, .int .i64 E]) (by simp [results, Tryz.results25, go_sem, zeroSt, t0, t1, t2, t3, t4]) rfl ⟨⟨_, by rw [HF.out], by rw [HF.out, if_neg HP.out]⟩, ?_⟩
      exact (((((HB3.out.setCell (by simp; omega) _).setCell (by simp; omega) _).setCell (by simp; omega) _).setCell (by simp; omega) _).setCell (by simp; omega) _)
  · have C := openT_no w0 D T S Ag Ad ng nd cg cd s n1 n2 h0
    simp only [stV] at C
    have hV := preE_ne HG.out HD.out h0
    have hF : fullE D T S s k pl dr = preE D T S s.place ng nd := by
      unfold fullE
      rw [hV, if_neg h0]
    have HF := Lib.hid hF
    have HP := Lib.hid h0
    have hp1 : (preE D T S s.place ng nd == 0) = false := beq_eq_false_iff_ne.2 h0
    clear hF hV
    generalize preE D T S s.place ng nd = E at *
    go_wp2_with fail
    refine C.mono ?_
    rintro e w1 ⟨rfl, hb1⟩
    have hZ2 := (hb1.block (w.heap.size + 3) (by have := HS0.out; omega)).trans HZ.out
    clear C v0 v1 v2 c0 c1 c2 c3 c4 d0 d1 d2 hk1 HS HZ
    go_wp2_with fail
    refine (told_err w1 _ E h0).mono ?_
    rintro e w3 ⟨rfl, hb3⟩
    have hZ3 := (hb3.block (w.heap.size + 3) (lt_of_block hZ2)).trans hZ2
    obtain ⟨t0, t1, t2, t3, t4, q0, q1, q2, q3, q4⟩ := res5 hZ3
    have HB3 := Lib.hid (HB.out.trans ((hb1.trans (hb3.mono hb1.size)).mono hsw))
    clear hZ2 hZ3 hb3 hb1 h0 hp1
    simp only [zeroSt]
    go_wp2
    refine bodyPost_ret (v := .tuple #[zeroSt, .int .i64 E]) (by simp [results, Tryz.results25, go_sem, zeroSt, t0, t1, t2, t3, t4]) rfl ⟨⟨_, by rw [HF.out], by rw [HF.out, if_neg HP.out]⟩, ?_⟩
    exact (((((HB3.out.setCell (by simp; omega) _).setCell (by simp; omega) _).setCell (by simp; omega) _).setCell (by simp; omega) _).setCell (by simp; omega) _)
end Go.Proofs.YtlbgocgocanloaaGreatDoor
