/- Apply. CareStates: the walk. CareApplies: the walk. CareStates and CareApplies: states of whatever size. -/
import Derived.Test.YtmcjnfghlpnghaaDoorK22
import Derived.Test.YtmcjnfghlpnghaaDoorK19
import Derived.Test.YtmcjnfghlpnghaaDoorK20
namespace Go.Proofs.YtmcjnfghlpnghaaDoor
open Go.RowKit

/-- the error of an event in a state -/
def fullE (D T S : Int) (s : Tr) (k pl dr : Int) : Int := if chkE D T S s = 0 then applyE D.toNat T S s k pl dr else chkE D T S s

set_option maxRecDepth 100000 in
set_option maxHeartbeats 8000000 in
theorem Apply_any (w : World) (B : Nat) (D T S : Int) (Ag Ad : Option Addr) (ng nd cg cd : Nat) (s : Tr) (k pl dr : Int) (h : StAt w B Ag Ad ng nd s) (hB : B ≤ w.heap.size) (hk : KindsAt w) :
    Calls Tryd.prog 43 #[.agg #[.int .i64 D, .int .i64 T, .int .i64 S], stV s Ag Ad ng nd cg cd, .agg #[.int .i64 k, .int .i64 pl, .int .i64 dr]] w (RApplyPost w D.toNat (applyS s k pl dr) (fullE D T S s k pl dr)) := by
  have hb0 : Below w.heap.size w ((((w.alloc (.cells #[.int .i64 D, .int .i64 T, .int .i64 S] 23)).alloc (.cells #[.bool s.mv, .bool s.al, .int .i64 s.place, .slice Ag ng cg, .slice Ad nd cd] 28)).alloc (.cells #[.int .i64 k, .int .i64 pl, .int .i64 dr] 66)).alloc (.cells #[.bool false, .bool false, .int .i64 0, .slice none 0 0, .slice none 0 0] 28)) :=
    ((((Below.refl _ _).alloc (Nat.le_refl _) _).alloc (by simp) _).alloc (by simp; omega) _).alloc (by simp; omega) _
  have k0 : ((((w.alloc (.cells #[.int .i64 D, .int .i64 T, .int .i64 S] 23)).alloc (.cells #[.bool s.mv, .bool s.al, .int .i64 s.place, .slice Ag ng cg, .slice Ad nd cd] 28)).alloc (.cells #[.int .i64 k, .int .i64 pl, .int .i64 dr] 66)).alloc (.cells #[.bool false, .bool false, .int .i64 0, .slice none 0 0, .slice none 0 0] 28)).heap[w.heap.size]? = some (.cells #[.int .i64 D, .int .i64 T, .int .i64 S] 23 (0, 0)) := by
    rw [heapq_alloc, if_neg (by simp; omega), heapq_alloc, if_neg (by simp; omega), heapq_alloc, if_neg (by simp), heapq_alloc, if_pos rfl]
  have k1 : ((((w.alloc (.cells #[.int .i64 D, .int .i64 T, .int .i64 S] 23)).alloc (.cells #[.bool s.mv, .bool s.al, .int .i64 s.place, .slice Ag ng cg, .slice Ad nd cd] 28)).alloc (.cells #[.int .i64 k, .int .i64 pl, .int .i64 dr] 66)).alloc (.cells #[.bool false, .bool false, .int .i64 0, .slice none 0 0, .slice none 0 0] 28)).heap[w.heap.size + 1]? = some (.cells #[.bool s.mv, .bool s.al, .int .i64 s.place, .slice Ag ng cg, .slice Ad nd cd] 28 (0, 0)) := by
    rw [heapq_alloc, if_neg (by simp), heapq_alloc, if_neg (by simp), heapq_alloc, if_pos (by simp)]
  have k2 : ((((w.alloc (.cells #[.int .i64 D, .int .i64 T, .int .i64 S] 23)).alloc (.cells #[.bool s.mv, .bool s.al, .int .i64 s.place, .slice Ag ng cg, .slice Ad nd cd] 28)).alloc (.cells #[.int .i64 k, .int .i64 pl, .int .i64 dr] 66)).alloc (.cells #[.bool false, .bool false, .int .i64 0, .slice none 0 0, .slice none 0 0] 28)).heap[w.heap.size + 2]? = some (.cells #[.int .i64 k, .int .i64 pl, .int .i64 dr] 66 (0, 0)) := by
    rw [heapq_alloc, if_neg (by simp), heapq_alloc, if_pos (by simp)]
  have k3 : ((((w.alloc (.cells #[.int .i64 D, .int .i64 T, .int .i64 S] 23)).alloc (.cells #[.bool s.mv, .bool s.al, .int .i64 s.place, .slice Ag ng cg, .slice Ad nd cd] 28)).alloc (.cells #[.int .i64 k, .int .i64 pl, .int .i64 dr] 66)).alloc (.cells #[.bool false, .bool false, .int .i64 0, .slice none 0 0, .slice none 0 0] 28)).heap[w.heap.size + 3]? = some (.cells #[.bool false, .bool false, .int .i64 0, .slice none 0 0, .slice none 0 0] 28 (0, 0)) := by
    rw [heapq_alloc, if_pos (by simp)]
  have hs0 : ((((w.alloc (.cells #[.int .i64 D, .int .i64 T, .int .i64 S] 23)).alloc (.cells #[.bool s.mv, .bool s.al, .int .i64 s.place, .slice Ag ng cg, .slice Ad nd cd] 28)).alloc (.cells #[.int .i64 k, .int .i64 pl, .int .i64 dr] 66)).alloc (.cells #[.bool false, .bool false, .int .i64 0, .slice none 0 0, .slice none 0 0] 28)).heap.size = w.heap.size + 4 := by simp
  obtain ⟨d0, d1, d2⟩ := cells3w k0
  obtain ⟨c0, c1, c2, c3, c4⟩ := cells5 k1
  obtain ⟨v0, v1, v2⟩ := cells3w k2
  have h1 := h.below (hb0.mono hB)
  have hk1 := hk.below hb0
  have HB := Lib.hid hb0
  have HS := Lib.hid h1
  have n1 := h.ng1
  have n2 := h.nd1
  have HG := Lib.hid h.lg
  have HD := Lib.hid h.ld
  have HZ := Lib.hid k3
  clear k0 k1 k2 k3 hb0 h h1 hk
  go_enter Tryd.func43, Tryd.ntmps43
  simp only [stV]
  go_upto_region 1 with (fail)
  generalize ((((w.alloc (.cells #[.int .i64 D, .int .i64 T, .int .i64 S] 23)).alloc (.cells #[.bool s.mv, .bool s.al, .int .i64 s.place, .slice Ag ng cg, .slice Ad nd cd] 28)).alloc (.cells #[.int .i64 k, .int .i64 pl, .int .i64 dr] 66)).alloc (.cells #[.bool false, .bool false, .int .i64 0, .slice none 0 0, .slice none 0 0] 28)) = w0 at *
  have HS0 := Lib.hid hs0
  have hsl : B ≤ w0.heap.size := by omega
  have hsw : w.heap.size ≤ w0.heap.size := by omega
  clear hs0
  by_cases h0 : preE D T S s.place ng nd = 0
  · obtain ⟨d, rfl, rfl, rfl⟩ := preE_len h0
    have z := h0
    unfold preE at z
    simp only [firstE_cons, firstE_nil, and_true] at z
    obtain ⟨⟨z1, z2⟩, z3, z4⟩ := doorsE_zero z.1
    have zp := placeE_zero z.2.1
    have C := openT_yes w0 B d T S Ag Ad cg cd s HS.out hsl h0
    simp only [stV] at C
    have hV := preE_zero HG.out HD.out h0
    by_cases hp : postE T S s = 0
    · have hF : fullE d T S s k pl dr = applyE d T S s k pl dr := by
        unfold fullE
        rw [hV, hp, if_pos rfl]
        rfl
      have HF := Lib.hid hF
      clear hF hV h0 z
      unfold OpenYes at C
      simp only [hp] at C
      clear hp
      go_wp2_with fail
      refine C.mono ?_
      rintro e w1 ⟨g, bg, bd, cg', cd', rfl, hT, hb1⟩
      have v0' := kept hb1 v0
      have v1' := kept hb1 v1
      have v2' := kept hb1 v2
      have hk2 := hk1.below hb1
      clear C v0 v1 v2 c0 c1 c2 c3 c4 d0 d1 d2 hk1 HS
      go_wp2_with fail
      refine (apply_any w1 k pl dr hb1.size (by omega) hk2 hT zp z3).mono ?_
      rintro e w2 ⟨rfl, hT2, hb2⟩
      have hZ2 := ((hb1.trans hb2).block (w.heap.size + 3) (by have := HS0.out; omega)).trans HZ.out
      clear v0' v1' v2' hk2 hT HZ
      have HB2 := Lib.hid (hb1.trans hb2)
      clear hb1 hb2
      by_cases ha : applyE d T S s k pl dr = 0
      · have hT3 := hT2 ha
        have HA := Lib.hid ha
        rw [ha]
        clear ha hT2
        go_wp2_with fail
        refine (told_ok w2 hT3).mono ?_
        rintro e w3 ⟨rfl, hb3⟩
        have hT4 := hT3.below hb3
        have hZ3 := (hb3.block (w.heap.size + 3) (lt_of_block hZ2)).trans hZ2
        obtain ⟨t0, t1, t2, t3, t4, q0, q1, q2, q3, q4⟩ := res5 hZ3
        have HB3 := Lib.hid (HB.out.trans ((HB2.out.trans (hb3.mono HB2.out.size)).mono hsw))
        have hB0 := hT4.hB
        have hbg := hT4.bgLt
        have hbd := hT4.bdLt
        have hne := hT4.ne
        rw [HS0.out] at hB0 hbg hbd
        have OG := Lib.hid (ownsRow_more hT4.gates (show w.heap.size + 4 ≤ w0.heap.size by rw [HS0.out]; exact Nat.le_refl _))
        have OD := Lib.hid (ownsRow_more hT4.doors (show w.heap.size + 4 ≤ w0.heap.size by rw [HS0.out]; exact Nat.le_refl _))
        clear hZ2 hZ3 hb3 hT3 hT4
        simp only [trSt]
        go_wp2
        refine bodyPost_ret (v := .tuple #[stV (applyS s k pl dr) (some ⟨bg, 0, none⟩) (some ⟨bd, 0, none⟩) d d cg' cd', .int .i64 0]) (by simp [results, Tryd.results43, go_sem, stV, t0, t1, t2, t3, t4]) rfl ⟨⟨_, by rw [HF.out, HA.out], ?_⟩, ?_⟩
        · rw [HF.out, HA.out, if_pos rfl]
          refine ⟨bg, bd, cg', cd', rfl, ?_⟩
          have l : w.heap.size + 3 < w.heap.size + 4 := by omega
          have o0 : OwnSt w3 (w.heap.size + 4) bg bd d d cg' cd' (applyS s k pl dr) := ⟨OG.out, OD.out, hne⟩
          exact (((((o0.far (p := ⟨w.heap.size + 3, 0, none⟩) l _).far (p := ⟨w.heap.size + 3, 1, none⟩) l _).far (p := ⟨w.heap.size + 3, 2, none⟩) l _).far (p := ⟨w.heap.size + 3, 3, none⟩) l _).far (p := ⟨w.heap.size + 3, 4, none⟩) l _).more (by omega)
        · exact (((((HB3.out.setCell (by simp; omega) _).setCell (by simp; omega) _).setCell (by simp; omega) _).setCell (by simp; omega) _).setCell (by simp; omega) _)
      · have HA := Lib.hid ha
        generalize applyE d T S s k pl dr = E at *
        clear hT2
        go_wp2_with fail
        refine (told_err w2 _ E ha).mono ?_
        rintro e w3 ⟨rfl, hb3⟩
        have hZ3 := (hb3.block (w.heap.size + 3) (lt_of_block hZ2)).trans hZ2
        obtain ⟨t0, t1, t2, t3, t4, q0, q1, q2, q3, q4⟩ := res5 hZ3
        have HB3 := Lib.hid (HB.out.trans ((HB2.out.trans (hb3.mono HB2.out.size)).mono hsw))
        clear hZ2 hZ3 hb3
        simp only [zeroSt]
        go_wp2
        refine bodyPost_ret (v := .tuple #[zeroSt, .int .i64 E]) (by simp [results, Tryd.results43, go_sem, zeroSt, t0, t1, t2, t3, t4]) rfl ⟨⟨_, by rw [HF.out], by rw [HF.out, if_neg HA.out]⟩, ?_⟩
        exact (((((HB3.out.setCell (by simp; omega) _).setCell (by simp; omega) _).setCell (by simp; omega) _).setCell (by simp; omega) _).setCell (by simp; omega) _)
    · have hF : fullE d T S s k pl dr = postE T S s := by
        unfold fullE
        rw [hV, if_neg hp]
      have HF := Lib.hid hF
      have HP := Lib.hid hp
      have hp1 : (postE T S s == 0) = false := beq_eq_false_iff_ne.2 hp
      clear hF hV h0 z
      unfold OpenYes at C
      generalize postE T S s = E at *
      go_wp2_with fail
      refine C.mono ?_
      rintro e w1 ⟨g, bg, bd, cg', cd', rfl, _, hb1⟩
      have hZ2 := (hb1.block (w.heap.size + 3) (by have := HS0.out; omega)).trans HZ.out
      clear C v0 v1 v2 c0 c1 c2 c3 c4 d0 d1 d2 hk1 HS HZ
      go_wp2_with fail
      refine (told_err w1 _ E hp).mono ?_
      rintro e w3 ⟨rfl, hb3⟩
      have hZ3 := (hb3.block (w.heap.size + 3) (lt_of_block hZ2)).trans hZ2
      obtain ⟨t0, t1, t2, t3, t4, q0, q1, q2, q3, q4⟩ := res5 hZ3
      have HB3 := Lib.hid (HB.out.trans ((hb1.trans (hb3.mono hb1.size)).mono hsw))
      clear hZ2 hZ3 hb3 hb1 hp hp1
      simp only [zeroSt]
      go_wp2
      refine bodyPost_ret (v := .tuple #[zeroSt, .int .i64 E]) (by simp [results, Tryd.results43, go_sem, zeroSt, t0, t1, t2, t3, t4]) rfl ⟨⟨_, by rw [HF.out], by rw [HF.out, if_neg HP.out]⟩, ?_⟩
      exact (((((HB3.out.setCell (by simp; omega) _).setCell (by simp; omega) _).setCell (by simp; omega) _).setCell (by simp; omega) _).setCell (by simp; omega) _)
  · have C := openT_no w0 D T S Ag Ad ng nd cg cd s n1 n2 h0
    simp only [stV] at C
    have hV := preE_ne HG.out HD.out h0
    have hF : fullE D T S s k pl dr = preE D T S s.place ng nd := by
      unfold fullE
      rw [hV, if_neg h0]
    have HF := Lib.hid hF
    have HP := Lib.hid h0
    have hp1 : (preE D T S s.place ng nd == 0) = false := beq_eq_false_iff_ne.2 h0
    clear hF hV
    generalize preE D T S s.place ng nd = E at *
    go_wp2_with fail
    refine C.mono ?_
    rintro e w1 ⟨rfl, hb1⟩
    have hZ2 := (hb1.block (w.heap.size + 3) (by have := HS0.out; omega)).trans HZ.out
    clear C v0 v1 v2 c0 c1 c2 c3 c4 d0 d1 d2 hk1 HS HZ
    go_wp2_with fail
    refine (told_err w1 _ E h0).mono ?_
    rintro e w3 ⟨rfl, hb3⟩
    have hZ3 := (hb3.block (w.heap.size + 3) (lt_of_block hZ2)).trans hZ2
    obtain ⟨t0, t1, t2, t3, t4, q0, q1, q2, q3, q4⟩ := res5 hZ3
    have HB3 := Lib.hid (HB.out.trans ((hb1.trans (hb3.mono hb1.size)).mono hsw))
    clear hZ2 hZ3 hb3 hb1 h0 hp1
    simp only [zeroSt]
    go_wp2
    refine bodyPost_ret (v := .tuple #[zeroSt, .int .i64 E]) (by simp [results, Tryd.results43, go_sem, zeroSt, t0, t1, t2, t3, t4]) rfl ⟨⟨_, by rw [HF.out], by rw [HF.out, if_neg HP.out]⟩, ?_⟩
    exact (((((HB3.out.setCell (by simp; omega) _).setCell (by simp; omega) _).setCell (by simp; omega) _).setCell (by simp; omega) _).setCell (by simp; omega) _)
end Go.Proofs.YtmcjnfghlpnghaaDoor

namespace Go.Proofs.YtmcjnfghlpnghaaDoor
open Go.RowKit

set_option maxRecDepth 100000 in
set_option maxHeartbeats 4000000 in
theorem CareStates_any (w : World) (D T S : Int) (Ag Ad : Option Addr) (ng nd cg cd : Nat) (s : Tr) (hk : KindsAt w) (h : StAt w w.heap.size Ag Ad ng nd s) :
    Calls Tryd.prog 6 #[.agg #[.int .i64 D, .int .i64 T, .int .i64 S], stV s Ag Ad ng nd cg cd] w (AwakePost w) := by
  have hb0 : Below w.heap.size w ((w.alloc (.cells #[.int .i64 D, .int .i64 T, .int .i64 S] 23)).alloc (.cells #[.bool s.mv, .bool s.al, .int .i64 s.place, .slice Ag ng cg, .slice Ad nd cd] 28)) :=
    ((Below.refl _ _).alloc (Nat.le_refl _) _).alloc (by simp) _
  have k0 : ((w.alloc (.cells #[.int .i64 D, .int .i64 T, .int .i64 S] 23)).alloc (.cells #[.bool s.mv, .bool s.al, .int .i64 s.place, .slice Ag ng cg, .slice Ad nd cd] 28)).heap[w.heap.size]? = some (.cells #[.int .i64 D, .int .i64 T, .int .i64 S] 23 (0, 0)) := by
    rw [heapq_alloc, if_neg (by simp), heapq_alloc, if_pos rfl]
  have k1 : ((w.alloc (.cells #[.int .i64 D, .int .i64 T, .int .i64 S] 23)).alloc (.cells #[.bool s.mv, .bool s.al, .int .i64 s.place, .slice Ag ng cg, .slice Ad nd cd] 28)).heap[w.heap.size + 1]? = some (.cells #[.bool s.mv, .bool s.al, .int .i64 s.place, .slice Ag ng cg, .slice Ad nd cd] 28 (0, 0)) := by
    rw [heapq_alloc, if_pos (by simp)]
  have hs1 : w.heap.size ≤ ((w.alloc (.cells #[.int .i64 D, .int .i64 T, .int .i64 S] 23)).alloc (.cells #[.bool s.mv, .bool s.al, .int .i64 s.place, .slice Ag ng cg, .slice Ad nd cd] 28)).heap.size := by simp; omega
  obtain ⟨d0, d1, d2⟩ := cells3w k0
  obtain ⟨c0, c1, c2, c3, c4⟩ := cells5 k1
  have A0 := awake_any _ (hk.below hb0)
  have hst := (h.below hb0).mono hs1
  have HB := Lib.hid hb0
  clear k0 k1 hb0 h hk
  simp only [stV]
  go_enter Tryd.func6, Tryd.ntmps6
  go_upto_region 1 with (fail)
  generalize ((w.alloc (.cells #[.int .i64 D, .int .i64 T, .int .i64 S] 23)).alloc (.cells #[.bool s.mv, .bool s.al, .int .i64 s.place, .slice Ag ng cg, .slice Ad nd cd] 28)) = w0 at *
  go_wp2_with fail
  refine A0.mono ?_
  rintro e w1 ⟨rfl, hb1⟩
  replace d0 := kept hb1 d0
  replace d1 := kept hb1 d1
  replace d2 := kept hb1 d2
  replace c0 := kept hb1 c0
  replace c1 := kept hb1 c1
  replace c2 := kept hb1 c2
  replace c3 := kept hb1 c3
  replace c4 := kept hb1 c4
  replace hst := (hst.below hb1).mono hb1.size
  replace HB := Lib.hid (HB.out.trans (hb1.mono hs1))
  have hs2 := Nat.le_trans hs1 hb1.size
  clear hb1 A0
  have F := fun b hb => few_any w1 Ag Ad ng nd cg cd s b hb
  simp only [stV] at F
  by_cases hf : (decide ((ng : Int) ≤ 8) && decide ((nd : Int) ≤ 8)) = true
  · have hf2 := hf
    simp only [Bool.and_eq_true, decide_eq_true_eq] at hf2
    obtain ⟨f1, f2⟩ := hf2
    go_wp2_with fail
    refine (F _ hf).mono ?_
    rintro e w2 ⟨rfl, hb1⟩
    replace d0 := kept hb1 d0
    replace d1 := kept hb1 d1
    replace d2 := kept hb1 d2
    replace c0 := kept hb1 c0
    replace c1 := kept hb1 c1
    replace c2 := kept hb1 c2
    replace c3 := kept hb1 c3
    replace c4 := kept hb1 c4
    replace hst := (hst.below hb1).mono hb1.size
    replace HB := Lib.hid (HB.out.trans (hb1.mono hs2))
    have hs3 := Nat.le_trans hs2 hb1.size
    clear hb1 F hf
    have Dn := fun W => DoorsErr_any D T S W
    by_cases hE : doorsE D T S = 0
    · obtain ⟨_, hT, _⟩ := doorsE_zero hE
      have hC : chkE D T S s = stateE D T S s := by unfold chkE; rw [if_pos hE]
      simp only [hE] at Dn
      clear hE
      go_wp2_with fail
      refine (Dn _).mono ?_
      rintro e w3 ⟨rfl, hb1⟩
      replace d0 := kept hb1 d0
      replace d1 := kept hb1 d1
      replace d2 := kept hb1 d2
      replace c0 := kept hb1 c0
      replace c1 := kept hb1 c1
      replace c2 := kept hb1 c2
      replace c3 := kept hb1 c3
      replace c4 := kept hb1 c4
      replace hst := (hst.below hb1).mono hb1.size
      replace HB := Lib.hid (HB.out.trans (hb1.mono hs3))
      have hs4 := Nat.le_trans hs3 hb1.size
      clear hb1 Dn
      have E := StateErr_any w3 w3.heap.size D T S Ag Ad ng nd cg cd s hst (Nat.le_refl _) hT
      have CH := fun (W : World) (B : Nat) (Ag Ad : Option Addr) (cg cd : Nat) (h : StAt W B Ag Ad ng nd s) (hB : B ≤ W.heap.size) => CheckState_any W B D T S Ag Ad ng nd cg cd s h hB
      simp only [hC] at CH
      simp only [stV] at E CH
      generalize stateE D T S s = err at *
      clear hC
      go_wp2_with fail
      refine E.mono ?_
      rintro e w4 ⟨rfl, hb1⟩
      replace d0 := kept hb1 d0
      replace d1 := kept hb1 d1
      replace d2 := kept hb1 d2
      replace c0 := kept hb1 c0
      replace c1 := kept hb1 c1
      replace c2 := kept hb1 c2
      replace c3 := kept hb1 c3
      replace c4 := kept hb1 c4
      replace hst := (hst.below hb1).mono hb1.size
      replace HB := Lib.hid (HB.out.trans (hb1.mono hs4))
      have hs5 := Nat.le_trans hs4 hb1.size
      clear hb1 E
      go_upto_region 8 with (fail)
      have x0 := fun x : Xt w4 => x.cell d0
      have x1 := fun x : Xt w4 => x.cell d1
      have x2 := fun x : Xt w4 => x.cell d2
      have y0 := fun x : Xt w4 => x.cell c0
      have y1 := fun x : Xt w4 => x.cell c1
      have y2 := fun x : Xt w4 => x.cell c2
      have y3 := fun x : Xt w4 => x.cell c3
      have y4 := fun x : Xt w4 => x.cell c4
      refine wp_region_mid [] [0, 1, 4] 2 [5, 6] (fun w' => ∃ x : Xt w4, w' = x.1) (by kernel_rfl) (by kernel_rfl) ⟨⟨w4.drew, (Below.refl _ _).drew⟩, rfl⟩ ?_
      simp only [opsAt_nil, opsAt_cons, consOpt_some, List.getElem?_toArray, List.getElem?_cons_zero, List.getElem?_cons_succ]
      refine wpQuiet_nil ?_
      show wpQuiet _ _ _ _ _ _
      repeat (go_big_quiet_step (fail))
      refine wpQuiet_nil ?_
      have hbd : Below w4.heap.size w4 w4.drew := (Below.refl _ _).drew
      show wpOrders _ _ _ _ _ _ _ _ w4.drew
      generalize w4.drew = wd at *
      clear x0 x1 x2 y0 y1 y2 y3 y4
      have CP := Copy_any wd w4.heap.size Ag Ad ng nd cg cd s (hst.below hbd) hbd.size (by omega) (by omega)
      simp only [stV] at CP
      refine wpOrders_one (i := 2) (by kernel_rfl) ?_
      unfold wpMid
      simp only [opsAt_nil, opsAt_cons, consOpt_some, List.getElem?_toArray, List.getElem?_cons_zero, List.getElem?_cons_succ]
      go_wp2_with (go_at_call 42; refine CP.mono ?_; rintro e w5 ⟨g1, g2, m1, m2, rfl, ho, hb5⟩)
      have hb45 := hbd.trans (hb5.mono hbd.size)
      refine onlyNormal_mk ⟨⟨⟨_, hb45⟩, rfl⟩, ?_⟩
      refine wpOrders_one (i := 3) (by kernel_rfl) ?_
      unfold wpMid
      simp only [opsAt_nil, opsAt_cons, consOpt_some, List.getElem?_toArray, List.getElem?_cons_zero, List.getElem?_cons_succ]
      go_wp2_with (go_at_call 41; refine (CH w5 w5.heap.size _ _ m1 m2 (ho.at_ (by omega) (by omega)) (Nat.le_refl _)).mono ?_; rintro e w6 ⟨rfl, hb6⟩)
      have hb46 := hb45.trans (hb6.mono hb45.size)
      refine onlyNormal_mk ⟨⟨⟨_, hb46⟩, rfl⟩, ?_⟩
      refine wpOrders_zero ?_
      go_wp2
      refine onlyNormal_mk ?_
      go_wp2
      go_ret
      exact ⟨rfl, HB.out.trans (hb46.mono hs5)⟩
    · have hC : chkE D T S s = doorsE D T S := by unfold chkE; rw [if_neg hE]
      have hE1 : (doorsE D T S == 0) = false := beq_eq_false_iff_ne.2 hE
      have CH := fun (W : World) (B : Nat) (Ag Ad : Option Addr) (cg cd : Nat) (h : StAt W B Ag Ad ng nd s) (hB : B ≤ W.heap.size) => CheckState_any W B D T S Ag Ad ng nd cg cd s h hB
      simp only [hC] at CH
      simp only [stV] at CH
      generalize doorsE D T S = err at *
      clear hC hE
      go_wp2_with fail
      refine (Dn _).mono ?_
      rintro e w4 ⟨rfl, hb1⟩
      replace d0 := kept hb1 d0
      replace d1 := kept hb1 d1
      replace d2 := kept hb1 d2
      replace c0 := kept hb1 c0
      replace c1 := kept hb1 c1
      replace c2 := kept hb1 c2
      replace c3 := kept hb1 c3
      replace c4 := kept hb1 c4
      replace hst := (hst.below hb1).mono hb1.size
      replace HB := Lib.hid (HB.out.trans (hb1.mono hs3))
      have hs5 := Nat.le_trans hs3 hb1.size
      clear hb1 Dn
      go_upto_region 8 with (fail)
      have x0 := fun x : Xt w4 => x.cell d0
      have x1 := fun x : Xt w4 => x.cell d1
      have x2 := fun x : Xt w4 => x.cell d2
      have y0 := fun x : Xt w4 => x.cell c0
      have y1 := fun x : Xt w4 => x.cell c1
      have y2 := fun x : Xt w4 => x.cell c2
      have y3 := fun x : Xt w4 => x.cell c3
      have y4 := fun x : Xt w4 => x.cell c4
      refine wp_region_mid [] [0, 1, 4] 2 [5, 6] (fun w' => ∃ x : Xt w4, w' = x.1) (by kernel_rfl) (by kernel_rfl) ⟨⟨w4.drew, (Below.refl _ _).drew⟩, rfl⟩ ?_
      simp only [opsAt_nil, opsAt_cons, consOpt_some, List.getElem?_toArray, List.getElem?_cons_zero, List.getElem?_cons_succ]
      refine wpQuiet_nil ?_
      show wpQuiet _ _ _ _ _ _
      repeat (go_big_quiet_step (fail))
      refine wpQuiet_nil ?_
      have hbd : Below w4.heap.size w4 w4.drew := (Below.refl _ _).drew
      show wpOrders _ _ _ _ _ _ _ _ w4.drew
      generalize w4.drew = wd at *
      clear x0 x1 x2 y0 y1 y2 y3 y4
      have CP := Copy_any wd w4.heap.size Ag Ad ng nd cg cd s (hst.below hbd) hbd.size (by omega) (by omega)
      simp only [stV] at CP
      refine wpOrders_one (i := 2) (by kernel_rfl) ?_
      unfold wpMid
      simp only [opsAt_nil, opsAt_cons, consOpt_some, List.getElem?_toArray, List.getElem?_cons_zero, List.getElem?_cons_succ]
      go_wp2_with (go_at_call 42; refine CP.mono ?_; rintro e w5 ⟨g1, g2, m1, m2, rfl, ho, hb5⟩)
      have hb45 := hbd.trans (hb5.mono hbd.size)
      refine onlyNormal_mk ⟨⟨⟨_, hb45⟩, rfl⟩, ?_⟩
      refine wpOrders_one (i := 3) (by kernel_rfl) ?_
      unfold wpMid
      simp only [opsAt_nil, opsAt_cons, consOpt_some, List.getElem?_toArray, List.getElem?_cons_zero, List.getElem?_cons_succ]
      go_wp2_with (go_at_call 41; refine (CH w5 w5.heap.size _ _ m1 m2 (ho.at_ (by omega) (by omega)) (Nat.le_refl _)).mono ?_; rintro e w6 ⟨rfl, hb6⟩)
      have hb46 := hb45.trans (hb6.mono hb45.size)
      refine onlyNormal_mk ⟨⟨⟨_, hb46⟩, rfl⟩, ?_⟩
      refine wpOrders_zero ?_
      go_wp2
      refine onlyNormal_mk ?_
      go_wp2
      go_ret
      exact ⟨rfl, HB.out.trans (hb46.mono hs5)⟩
  · have hf' : (decide ((ng : Int) ≤ 8) && decide ((nd : Int) ≤ 8)) = false := by simpa using hf
    go_wp2_with fail
    refine (F _ hf').mono ?_
    rintro e w2 ⟨rfl, hb1⟩
    go_wp2
    go_ret
    exact ⟨rfl, HB.out.trans (hb1.mono hs2)⟩
end Go.Proofs.YtmcjnfghlpnghaaDoor

namespace Go.Proofs.YtmcjnfghlpnghaaDoor
open Go.RowKit

/-- a state and an error, the state's slices made by the call -/
def ApRes (w : World) (s : Tr) (c : Int) (e : Ending) (w' : World) : Prop :=
  ∃ Ag Ad ng nd cg cd, e = .returned (.tuple #[stV s Ag Ad ng nd cg cd, .int .i64 c]) ∧ StAt w' w'.heap.size Ag Ad ng nd s ∧ (∀ a, Ag = some a → w.heap.size ≤ a.block) ∧ (∀ a, Ad = some a → w.heap.size ≤ a.block) ∧ Below w.heap.size w w'

theorem apRes_of {w w' : World} {D : Nat} {s : Tr} {c : Int} {e : Ending} (hD : D ≤ 1000000000) (h : RApplyPost w D s c e w') : ApRes w (if c = 0 then s else zeroTr) c e w' := by
  obtain ⟨⟨v, rfl, hv⟩, hb⟩ := h
  by_cases hc : c = 0
  · rw [if_pos hc] at hv ⊢
    obtain ⟨g1, g2, c1, c2, rfl, ho⟩ := hv
    exact ⟨_, _, _, _, _, _, rfl, ho.at_ hD hD, fun _ h => by cases h; exact (ownBlk ho.og rfl).1, fun _ h => by cases h; exact (ownBlk ho.od rfl).1, hb⟩
  · rw [if_neg hc] at hv ⊢
    rw [hv]
    exact ⟨none, none, 0, 0, 0, 0, rfl, zeroAt _ _, fun _ h => (by cases h), fun _ h => (by cases h), hb⟩

set_option maxRecDepth 100000 in
set_option maxHeartbeats 8000000 in
theorem CareApplies_any (w : World) (D T S : Int) (Ag Ad : Option Addr) (ng nd cg cd : Nat) (s : Tr) (k pl dr : Int) (hk : KindsAt w) (h : StAt w w.heap.size Ag Ad ng nd s) :
    Calls Tryd.prog 7 #[.agg #[.int .i64 D, .int .i64 T, .int .i64 S], stV s Ag Ad ng nd cg cd, .agg #[.int .i64 k, .int .i64 pl, .int .i64 dr]] w (AwakePost w) := by
  have hb0 : Below w.heap.size w (((w.alloc (.cells #[.int .i64 D, .int .i64 T, .int .i64 S] 23)).alloc (.cells #[.bool s.mv, .bool s.al, .int .i64 s.place, .slice Ag ng cg, .slice Ad nd cd] 28)).alloc (.cells #[.int .i64 k, .int .i64 pl, .int .i64 dr] 66)) :=
    (((Below.refl _ _).alloc (Nat.le_refl _) _).alloc (by simp) _).alloc (by simp; omega) _
  have k0 : (((w.alloc (.cells #[.int .i64 D, .int .i64 T, .int .i64 S] 23)).alloc (.cells #[.bool s.mv, .bool s.al, .int .i64 s.place, .slice Ag ng cg, .slice Ad nd cd] 28)).alloc (.cells #[.int .i64 k, .int .i64 pl, .int .i64 dr] 66)).heap[w.heap.size]? = some (.cells #[.int .i64 D, .int .i64 T, .int .i64 S] 23 (0, 0)) := by
    rw [heapq_alloc, if_neg (by simp; omega), heapq_alloc, if_neg (by simp), heapq_alloc, if_pos rfl]
  have k1 : (((w.alloc (.cells #[.int .i64 D, .int .i64 T, .int .i64 S] 23)).alloc (.cells #[.bool s.mv, .bool s.al, .int .i64 s.place, .slice Ag ng cg, .slice Ad nd cd] 28)).alloc (.cells #[.int .i64 k, .int .i64 pl, .int .i64 dr] 66)).heap[w.heap.size + 1]? = some (.cells #[.bool s.mv, .bool s.al, .int .i64 s.place, .slice Ag ng cg, .slice Ad nd cd] 28 (0, 0)) := by
    rw [heapq_alloc, if_neg (by simp), heapq_alloc, if_pos (by simp)]
  have k2 : (((w.alloc (.cells #[.int .i64 D, .int .i64 T, .int .i64 S] 23)).alloc (.cells #[.bool s.mv, .bool s.al, .int .i64 s.place, .slice Ag ng cg, .slice Ad nd cd] 28)).alloc (.cells #[.int .i64 k, .int .i64 pl, .int .i64 dr] 66)).heap[w.heap.size + 2]? = some (.cells #[.int .i64 k, .int .i64 pl, .int .i64 dr] 66 (0, 0)) := by
    rw [heapq_alloc, if_pos (by simp)]
  have hs1 : w.heap.size ≤ (((w.alloc (.cells #[.int .i64 D, .int .i64 T, .int .i64 S] 23)).alloc (.cells #[.bool s.mv, .bool s.al, .int .i64 s.place, .slice Ag ng cg, .slice Ad nd cd] 28)).alloc (.cells #[.int .i64 k, .int .i64 pl, .int .i64 dr] 66)).heap.size := by simp; omega
  obtain ⟨d0, d1, d2⟩ := cells3w k0
  obtain ⟨c0, c1, c2, c3, c4⟩ := cells5 k1
  obtain ⟨v0, v1, v2⟩ := cells3w k2
  have hk0 := hk.below hb0
  have A0 := awake_any _ hk0
  have hst := (h.below hb0).mono hs1
  have HB := Lib.hid hb0
  clear k0 k1 k2 hb0 h hk
  simp only [stV]
  go_enter Tryd.func7, Tryd.ntmps7
  go_upto_region 1 with (fail)
  generalize (((w.alloc (.cells #[.int .i64 D, .int .i64 T, .int .i64 S] 23)).alloc (.cells #[.bool s.mv, .bool s.al, .int .i64 s.place, .slice Ag ng cg, .slice Ad nd cd] 28)).alloc (.cells #[.int .i64 k, .int .i64 pl, .int .i64 dr] 66)) = w0 at *
  go_wp2_with fail
  refine A0.mono ?_
  rintro e w1 ⟨rfl, hb1⟩
  replace hk0 := hk0.below hb1
  replace d0 := kept hb1 d0
  replace d1 := kept hb1 d1
  replace d2 := kept hb1 d2
  replace c0 := kept hb1 c0
  replace c1 := kept hb1 c1
  replace c2 := kept hb1 c2
  replace c3 := kept hb1 c3
  replace c4 := kept hb1 c4
  replace v0 := kept hb1 v0
  replace v1 := kept hb1 v1
  replace v2 := kept hb1 v2
  replace hst := (hst.below hb1).mono hb1.size
  replace HB := Lib.hid (HB.out.trans (hb1.mono hs1))
  have hs2 := Nat.le_trans hs1 hb1.size
  clear hb1 A0
  have F := fun b hb => few_any w1 Ag Ad ng nd cg cd s b hb
  simp only [stV] at F
  by_cases hf : (decide ((ng : Int) ≤ 8) && decide ((nd : Int) ≤ 8)) = true
  · have hf2 := hf
    simp only [Bool.and_eq_true, decide_eq_true_eq] at hf2
    obtain ⟨f1, f2⟩ := hf2
    go_upto_region 5 with (go_at_call 39; refine (F _ hf).mono ?_; rintro e w2 ⟨rfl, hb1⟩)
    replace hk0 := hk0.below hb1
    replace d0 := kept hb1 d0
    replace d1 := kept hb1 d1
    replace d2 := kept hb1 d2
    replace c0 := kept hb1 c0
    replace c1 := kept hb1 c1
    replace c2 := kept hb1 c2
    replace c3 := kept hb1 c3
    replace c4 := kept hb1 c4
    replace v0 := kept hb1 v0
    replace v1 := kept hb1 v1
    replace v2 := kept hb1 v2
    replace hst := (hst.below hb1).mono hb1.size
    replace HB := Lib.hid (HB.out.trans (hb1.mono hs2))
    have hs3 := Nat.le_trans hs2 hb1.size
    have hlt := Nat.lt_of_lt_of_le (lt_of_cell d0) (Nat.le_refl w2.heap.size)
    clear hb1 F hf
    -- the code's answer
    obtain ⟨sC, hsC⟩ : ∃ sC, sC = if fullE D T S s k pl dr = 0 then applyS s k pl dr else zeroTr := ⟨_, rfl⟩
    have AP : ∀ (W : World) (Ag Ad : Option Addr) (cg cd : Nat), KindsAt W → StAt W W.heap.size Ag Ad ng nd s → Calls Tryd.prog 43 #[.agg #[.int .i64 D, .int .i64 T, .int .i64 S], stV s Ag Ad ng nd cg cd, .agg #[.int .i64 k, .int .i64 pl, .int .i64 dr]] W (ApRes W sC (fullE D T S s k pl dr)) := by
      intro W Ag Ad cg cd hk h
      rw [hsC]
      by_cases hD : D ≤ 1000000000
      · exact (Apply_any W W.heap.size D T S Ag Ad ng nd cg cd s k pl dr h (Nat.le_refl _) hk).mono fun e w' hp => apRes_of (by omega) hp
      · have hne : fullE D T S s k pl dr ≠ 0 := by
          have : doorsE D T S ≠ 0 := fun h => hD (by have := doorsE_zero h; omega)
          unfold fullE chkE
          rw [if_neg this, if_neg this]
          exact this
        refine (Apply_any W W.heap.size D T S Ag Ad ng nd cg cd s k pl dr h (Nat.le_refl _) hk).mono fun e w' hp => ?_
        obtain ⟨⟨v, rfl, hv⟩, hb⟩ := hp
        rw [if_neg hne] at hv ⊢
        rw [hv]
        exact ⟨none, none, 0, 0, 0, 0, rfl, zeroAt _ _, fun _ h => (by cases h), fun _ h => (by cases h), hb⟩
    simp only [stV] at AP
    have HSC := Lib.hid hsC
    clear hsC
    have x0 := fun x : Xt w2 => x.cell d0
    have x1 := fun x : Xt w2 => x.cell d1
    have x2 := fun x : Xt w2 => x.cell d2
    have y0 := fun x : Xt w2 => x.cell c0
    have y1 := fun x : Xt w2 => x.cell c1
    have y2 := fun x : Xt w2 => x.cell c2
    have y3 := fun x : Xt w2 => x.cell c3
    have y4 := fun x : Xt w2 => x.cell c4
    have z0 := fun x : Xt w2 => x.cell v0
    have z1 := fun x : Xt w2 => x.cell v1
    have z2 := fun x : Xt w2 => x.cell v2
    have CP := fun (W : World) (hW : Below w2.heap.size w2 W) => Copy_any W w2.heap.size Ag Ad ng nd cg cd s (hst.below hW) hW.size (by omega) (by omega)
    simp only [stV] at CP
    go_cut [7, 8] from 11 (fun s7 s8 wc => CutR w2 sC 0 (fullE D T S s k pl dr) s7 (.int .i64 0) s8 wc)
    case first =>
      refine wp_region_eager [10] (fun w' => ∃ x : Xt w2, w' = x.1) (by kernel_rfl) ⟨⟨w2.drew, (Below.refl _ _).drew⟩, rfl⟩ ?_
      refine wpE_reads [0, 1, 3] 8 rfl (by kernel_rfl) ?_
      simp only [opsAt_nil, opsAt_cons, consOpt_some, List.getElem?_toArray, List.getElem?_cons_zero, List.getElem?_cons_succ]
      repeat (go_big_quiet_step (fail))
      refine wpQuiet_nil ?_
      have hbd : Below w2.heap.size w2 w2.drew := (Below.refl _ _).drew
      show wpE _ _ _ _ _ _ _ _ _ w2.drew
      generalize w2.drew = wd at *
      refine wpE_two (i := 2) (k := 8) rfl (by kernel_rfl) rfl rfl ?_ ?_
      · unfold wpMid
        simp only [opsAt_nil, opsAt_cons, consOpt_some, List.getElem?_toArray, List.getElem?_cons_zero, List.getElem?_cons_succ]
        go_wp2_with (go_at_call 42; refine (CP wd hbd).mono ?_; rintro e wA ⟨a1, a2, m1, m2, rfl, ho, hbT⟩)
        have hbA := hbd.trans (hbT.mono hbd.size)
        refine onlyNormal_mk ⟨⟨⟨_, hbA⟩, rfl⟩, ?_⟩
        refine wpE_two (i := 4) (k := 8) rfl (by kernel_rfl) rfl rfl ?_ ?_
        · unfold wpMid
          simp only [opsAt_nil, opsAt_cons, consOpt_some, List.getElem?_toArray, List.getElem?_cons_zero, List.getElem?_cons_succ]
          go_wp2_with (go_at_call 43; refine (AP wA _ _ _ _ (hk0.below hbA) (ho.at_ (by omega) (by omega))).mono ?_; rintro e wB ⟨A1, A2, n1, n2, p1, p2, rfl, hst', f1', f2', hbS⟩; simp only [stV])
          have hbB := hbA.trans (hbS.mono hbA.size)
          refine onlyNormal_mk ⟨⟨⟨_, hbB⟩, rfl⟩, ?_⟩
          refine wpE_reads [5, 6, 7] 3 rfl (by kernel_rfl) ?_
          simp only [opsAt_nil, opsAt_cons, consOpt_some, List.getElem?_toArray, List.getElem?_cons_zero, List.getElem?_cons_succ]
          repeat (go_big_quiet_step (fail))
          refine wpQuiet_nil ?_
          refine wpE_one (i := 8) rfl (by kernel_rfl) rfl ?_
          unfold wpMid
          simp only [opsAt_nil, opsAt_cons, consOpt_some, List.getElem?_toArray, List.getElem?_cons_zero, List.getElem?_cons_succ]
          go_wp2
          have ky0 : (wB.alloc (.cells #[.bool false, .bool false, .int .i64 0, .slice none 0 0, .slice none 0 0] 28)).heap[wB.heap.size]? = some (.cells #[.bool false, .bool false, .int .i64 0, .slice none 0 0, .slice none 0 0] 28 (0, 0)) := by rw [heapq_alloc, if_pos rfl]
          have hbY := hbB.alloc hbB.size (.cells #[.bool false, .bool false, .int .i64 0, .slice none 0 0, .slice none 0 0] 28)
          have hyl := hbB.size
          have hstY := hst'.below ((Below.refl _ _).alloc (Nat.le_refl _) (.cells #[.bool false, .bool false, .int .i64 0, .slice none 0 0, .slice none 0 0] 28))
          generalize wB.alloc (.cells #[.bool false, .bool false, .int .i64 0, .slice none 0 0, .slice none 0 0] 28) = wY at *
          generalize wB.heap.size = y at *
          refine onlyNormal_mk ⟨⟨⟨_, hbY⟩, rfl⟩, ?_⟩
          obtain ⟨t0, t1, t2, t3, t4, q0, q1, q2, q3, q4⟩ := res5 ky0
          refine wpE_one (i := 9) rfl (by kernel_rfl) rfl ?_
          unfold wpMid
          simp only [opsAt_nil, opsAt_cons, consOpt_some, List.getElem?_toArray, List.getElem?_cons_zero, List.getElem?_cons_succ]
          go_wp2
          refine onlyNormal_mk ⟨⟨⟨_, hbY.trans (put5_below _ _ _ _ _ hyl)⟩, rfl⟩, ?_⟩
          refine wpE_tail rfl (by kernel_rfl) ?_
          simp only [opsAt_nil, opsAt_cons, consOpt_some, List.getElem?_toArray, List.getElem?_cons_zero, List.getElem?_cons_succ]
          go_wp2
          refine onlyNormal_mk ?_
          go_wp2_with fail
          go_meet
          exact cutR_mk hbY hyl ky0 hstY (Nat.le_of_lt (lt_of_block ky0)) (.inl (Nat.le_refl _))
        · unfold wpMid
          simp only [opsAt_nil, opsAt_cons, consOpt_some, List.getElem?_toArray, List.getElem?_cons_zero, List.getElem?_cons_succ]
          go_wp2
          have ky0 : (wA.alloc (.cells #[.bool false, .bool false, .int .i64 0, .slice none 0 0, .slice none 0 0] 28)).heap[wA.heap.size]? = some (.cells #[.bool false, .bool false, .int .i64 0, .slice none 0 0, .slice none 0 0] 28 (0, 0)) := by rw [heapq_alloc, if_pos rfl]
          have hbY := hbA.alloc hbA.size (.cells #[.bool false, .bool false, .int .i64 0, .slice none 0 0, .slice none 0 0] 28)
          have hyl := hbA.size
          have hoY := ho.below ((Below.refl wA.heap.size wA).alloc (Nat.le_refl _) (.cells #[.bool false, .bool false, .int .i64 0, .slice none 0 0, .slice none 0 0] 28))
          generalize wA.alloc (.cells #[.bool false, .bool false, .int .i64 0, .slice none 0 0, .slice none 0 0] 28) = wY at *
          generalize wA.heap.size = y at *
          refine onlyNormal_mk ⟨⟨⟨_, hbY⟩, rfl⟩, ?_⟩
          refine wpE_one (i := 4) rfl (by kernel_rfl) rfl ?_
          unfold wpMid
          simp only [opsAt_nil, opsAt_cons, consOpt_some, List.getElem?_toArray, List.getElem?_cons_zero, List.getElem?_cons_succ]
          go_wp2_with (go_at_call 43; refine (AP wY _ _ _ _ (hk0.below hbY) (hoY.at_ (by omega) (by omega))).mono ?_; rintro e wB ⟨A1, A2, n1, n2, p1, p2, rfl, hst', f1', f2', hbS⟩; simp only [stV])
          have hbB := hbY.trans (hbS.mono hbY.size)
          have ky := (hbS.block y (lt_of_block ky0)).trans ky0
          refine onlyNormal_mk ⟨⟨⟨_, hbB⟩, rfl⟩, ?_⟩
          refine wpE_reads [5, 6, 7] 2 rfl (by kernel_rfl) ?_
          simp only [opsAt_nil, opsAt_cons, consOpt_some, List.getElem?_toArray, List.getElem?_cons_zero, List.getElem?_cons_succ]
          repeat (go_big_quiet_step (fail))
          refine wpQuiet_nil ?_
          obtain ⟨t0, t1, t2, t3, t4, q0, q1, q2, q3, q4⟩ := res5 ky
          refine wpE_one (i := 9) rfl (by kernel_rfl) rfl ?_
          unfold wpMid
          simp only [opsAt_nil, opsAt_cons, consOpt_some, List.getElem?_toArray, List.getElem?_cons_zero, List.getElem?_cons_succ]
          go_wp2
          refine onlyNormal_mk ⟨⟨⟨_, hbB.trans (put5_below _ _ _ _ _ hyl)⟩, rfl⟩, ?_⟩
          refine wpE_tail rfl (by kernel_rfl) ?_
          simp only [opsAt_nil, opsAt_cons, consOpt_some, List.getElem?_toArray, List.getElem?_cons_zero, List.getElem?_cons_succ]
          go_wp2
          refine onlyNormal_mk ?_
          go_wp2_with fail
          go_meet
          exact cutR_mk hbB hyl ky hst' (Nat.le_refl _) (.inr ⟨fun a ha => Nat.lt_of_lt_of_le (lt_of_block ky0) (f1' a ha), fun a ha => Nat.lt_of_lt_of_le (lt_of_block ky0) (f2' a ha)⟩)
      · unfold wpMid
        simp only [opsAt_nil, opsAt_cons, consOpt_some, List.getElem?_toArray, List.getElem?_cons_zero, List.getElem?_cons_succ]
        go_wp2
        have ky0 : (wd.alloc (.cells #[.bool false, .bool false, .int .i64 0, .slice none 0 0, .slice none 0 0] 28)).heap[wd.heap.size]? = some (.cells #[.bool false, .bool false, .int .i64 0, .slice none 0 0, .slice none 0 0] 28 (0, 0)) := by rw [heapq_alloc, if_pos rfl]
        have hbY := hbd.alloc hbd.size (.cells #[.bool false, .bool false, .int .i64 0, .slice none 0 0, .slice none 0 0] 28)
        have hyl := hbd.size
        generalize wd.alloc (.cells #[.bool false, .bool false, .int .i64 0, .slice none 0 0, .slice none 0 0] 28) = wY at *
        generalize wd.heap.size = y at *
        refine onlyNormal_mk ⟨⟨⟨_, hbY⟩, rfl⟩, ?_⟩
        refine wpE_one (i := 2) rfl (by kernel_rfl) rfl ?_
        unfold wpMid
        simp only [opsAt_nil, opsAt_cons, consOpt_some, List.getElem?_toArray, List.getElem?_cons_zero, List.getElem?_cons_succ]
        go_wp2_with (go_at_call 42; refine (CP wY hbY).mono ?_; rintro e wA ⟨a1, a2, m1, m2, rfl, ho, hbT⟩)
        have hbA := hbY.trans (hbT.mono hbY.size)
        have ky1 := (hbT.block y (lt_of_block ky0)).trans ky0
        refine onlyNormal_mk ⟨⟨⟨_, hbA⟩, rfl⟩, ?_⟩
        refine wpE_one (i := 4) rfl (by kernel_rfl) rfl ?_
        unfold wpMid
        simp only [opsAt_nil, opsAt_cons, consOpt_some, List.getElem?_toArray, List.getElem?_cons_zero, List.getElem?_cons_succ]
        go_wp2_with (go_at_call 43; refine (AP wA _ _ _ _ (hk0.below hbA) (ho.at_ (by omega) (by omega))).mono ?_; rintro e wB ⟨A1, A2, n1, n2, p1, p2, rfl, hst', f1', f2', hbS⟩; simp only [stV])
        have hbB := hbA.trans (hbS.mono hbA.size)
        have ky := (hbS.block y (lt_of_block ky1)).trans ky1
        refine onlyNormal_mk ⟨⟨⟨_, hbB⟩, rfl⟩, ?_⟩
        refine wpE_reads [5, 6, 7] 2 rfl (by kernel_rfl) ?_
        simp only [opsAt_nil, opsAt_cons, consOpt_some, List.getElem?_toArray, List.getElem?_cons_zero, List.getElem?_cons_succ]
        repeat (go_big_quiet_step (fail))
        refine wpQuiet_nil ?_
        obtain ⟨t0, t1, t2, t3, t4, q0, q1, q2, q3, q4⟩ := res5 ky
        refine wpE_one (i := 9) rfl (by kernel_rfl) rfl ?_
        unfold wpMid
        simp only [opsAt_nil, opsAt_cons, consOpt_some, List.getElem?_toArray, List.getElem?_cons_zero, List.getElem?_cons_succ]
        go_wp2
        refine onlyNormal_mk ⟨⟨⟨_, hbB.trans (put5_below _ _ _ _ _ hyl)⟩, rfl⟩, ?_⟩
        refine wpE_tail rfl (by kernel_rfl) ?_
        simp only [opsAt_nil, opsAt_cons, consOpt_some, List.getElem?_toArray, List.getElem?_cons_zero, List.getElem?_cons_succ]
        go_wp2
        refine onlyNormal_mk ?_
        go_wp2_with fail
        go_meet
        exact cutR_mk hbB hyl ky hst' (Nat.le_refl _) (.inr ⟨fun a ha => Nat.lt_of_lt_of_le (lt_of_block ky1) (f1' a ha), fun a ha => Nat.lt_of_lt_of_le (lt_of_block ky1) (f2' a ha)⟩)
    case rest =>
      obtain ⟨y, B1, B2, n1, n2, p1, p2, rfl, _, rfl, ky, hstC, hb1⟩ := hcut
      replace d0 := kept hb1 d0
      replace d1 := kept hb1 d1
      replace d2 := kept hb1 d2
      replace c0 := kept hb1 c0
      replace c1 := kept hb1 c1
      replace c2 := kept hb1 c2
      replace c3 := kept hb1 c3
      replace c4 := kept hb1 c4
      replace v0 := kept hb1 v0
      replace v1 := kept hb1 v1
      replace v2 := kept hb1 v2
      replace hst := (hst.below hb1).mono hb1.size
      replace HB := Lib.hid (HB.out.trans (hb1.mono hs3))
      have hs4 := Nat.le_trans hs3 hb1.size
      clear hb1 x0 x1 x2 y0 y1 y2 y3 y4 z0 z1 z2 AP CP
      have Dn := fun W => DoorsErr_any D T S W
      by_cases hE : doorsE D T S = 0
      · obtain ⟨⟨hD1, hD2⟩, hT, _⟩ := doorsE_zero hE
        simp only [hE] at Dn
        by_cases hS : stateE D T S s = 0
        · obtain ⟨d, rfl⟩ := Int.eq_ofNat_of_zero_le (show 0 ≤ D by omega)
          have R := right_iff.1 hS
          obtain rfl : d = ng := by rw [← R.lg]; exact hst.lg
          obtain rfl : d = nd := by rw [← R.ld]; exact hst.ld
          have zp := placeE_zero R.place
          have hC : chkE d T S s = 0 := by unfold chkE; rw [if_pos hE]; exact hS
          have hF : fullE d T S s k pl dr = applyE d T S s k pl dr := by
            unfold fullE
            rw [if_pos hC]
            rfl
          have SE := fun (W : World) (h : StAt W W.heap.size Ag Ad d d s) => StateErr_any W W.heap.size d T S Ag Ad d d cg cd s h (Nat.le_refl _) hT
          simp only [hS] at SE
          simp only [stV] at SE
          have EV := fun W => EventErr_any d T S k pl dr W (by omega) (by omega)
          have hsC := HSC.out
          rw [hF] at hsC
          by_cases hV : evErrM d k pl dr = 0
          · simp only [hV] at EV
            have RA := fun (W : World) (h : StAt W W.heap.size Ag Ad d d s) => (refApply_any W W.heap.size d T S Ag Ad cg cd s k pl dr h (Nat.le_refl _) (by omega) zp hT hV).mono fun e w' hp => apRes_of (by omega) hp
            simp only [← hsC] at RA
            simp only [stV] at RA
            simp only [hF] at *
            generalize applyE d T S s k pl dr = c at *
            clear hsC hF hC hS hE hV R
            go_wp2_with fail
            refine (Dn _).mono ?_
            rintro e w4 ⟨rfl, hb1⟩
            replace d0 := kept hb1 d0
            replace d1 := kept hb1 d1
            replace d2 := kept hb1 d2
            replace c0 := kept hb1 c0
            replace c1 := kept hb1 c1
            replace c2 := kept hb1 c2
            replace c3 := kept hb1 c3
            replace c4 := kept hb1 c4
            replace v0 := kept hb1 v0
            replace v1 := kept hb1 v1
            replace v2 := kept hb1 v2
            replace hst := (hst.below hb1).mono hb1.size
            replace hstC := (hstC.below hb1).mono hb1.size
            replace ky := (hb1.block y (lt_of_block ky)).trans ky
            replace HB := Lib.hid (HB.out.trans (hb1.mono hs4))
            have hs5 := Nat.le_trans hs4 hb1.size
            clear hb1
            go_wp2_with fail
            refine (SE _ hst).mono ?_
            rintro e w5 ⟨rfl, hb1⟩
            replace d0 := kept hb1 d0
            replace d1 := kept hb1 d1
            replace d2 := kept hb1 d2
            replace c0 := kept hb1 c0
            replace c1 := kept hb1 c1
            replace c2 := kept hb1 c2
            replace c3 := kept hb1 c3
            replace c4 := kept hb1 c4
            replace v0 := kept hb1 v0
            replace v1 := kept hb1 v1
            replace v2 := kept hb1 v2
            replace hst := (hst.below hb1).mono hb1.size
            replace hstC := (hstC.below hb1).mono hb1.size
            replace ky := (hb1.block y (lt_of_block ky)).trans ky
            replace HB := Lib.hid (HB.out.trans (hb1.mono hs5))
            have hs6 := Nat.le_trans hs5 hb1.size
            clear hb1
            go_wp2_with fail
            refine (EV _).mono ?_
            rintro e w6 ⟨rfl, hb1⟩
            replace d0 := kept hb1 d0
            replace d1 := kept hb1 d1
            replace d2 := kept hb1 d2
            replace c0 := kept hb1 c0
            replace c1 := kept hb1 c1
            replace c2 := kept hb1 c2
            replace c3 := kept hb1 c3
            replace c4 := kept hb1 c4
            replace v0 := kept hb1 v0
            replace v1 := kept hb1 v1
            replace v2 := kept hb1 v2
            replace hst := (hst.below hb1).mono hb1.size
            replace hstC := (hstC.below hb1).mono hb1.size
            replace ky := (hb1.block y (lt_of_block ky)).trans ky
            replace HB := Lib.hid (HB.out.trans (hb1.mono hs6))
            have hs7 := Nat.le_trans hs6 hb1.size
            clear hb1
            go_upto_region 13 with (fail)
            have hb1 : Below w6.heap.size w6 (w6.alloc (.cells #[.bool false, .bool false, .int .i64 0, .slice none 0 0, .slice none 0 0] 28)) := (Below.refl _ _).alloc (Nat.le_refl _) _
            have kz : (w6.alloc (.cells #[.bool false, .bool false, .int .i64 0, .slice none 0 0, .slice none 0 0] 28)).heap[w6.heap.size]? = some (.cells #[.bool false, .bool false, .int .i64 0, .slice none 0 0, .slice none 0 0] 28 (0, 0)) := by rw [heapq_alloc, if_pos rfl]
            have hyz := lt_of_block ky
            replace d0 := kept hb1 d0
            replace d1 := kept hb1 d1
            replace d2 := kept hb1 d2
            replace c0 := kept hb1 c0
            replace c1 := kept hb1 c1
            replace c2 := kept hb1 c2
            replace c3 := kept hb1 c3
            replace c4 := kept hb1 c4
            replace v0 := kept hb1 v0
            replace v1 := kept hb1 v1
            replace v2 := kept hb1 v2
            replace hst := (hst.below hb1).mono hb1.size
            replace hstC := hstC.below hb1
            replace ky := (hb1.block y (lt_of_block ky)).trans ky
            replace HB := Lib.hid (HB.out.trans (hb1.mono hs7))
            have hzw := hs7
            have hs8 := Nat.le_trans hs7 hb1.size
            clear hb1
            generalize w6.alloc (.cells #[.bool false, .bool false, .int .i64 0, .slice none 0 0, .slice none 0 0] 28) = w7 at *
            generalize w6.heap.size = z at *
            go_wp2_with fail
            refine (RA _ hst).mono ?_
            rintro e w8 ⟨A1, A2, o1, o2, q1, q2, rfl, hstR, fr1, fr2, hb1⟩
            have hzl := lt_of_block kz
            replace hstC := hstC.below (hb1.mono (Nat.le_of_lt hzl))
            replace ky := (hb1.block y (lt_of_block ky)).trans ky
            replace kz := (hb1.block z (lt_of_block kz)).trans kz
            replace HB := Lib.hid (HB.out.trans (hb1.mono hs8))
            have hzs := hb1.size
            simp only [stV]
            obtain ⟨t0, t1, t2, t3, t4, f0, f1, f2, f3, f4⟩ := res5 kz
            clear hb1 d0 d1 d2 c0 c1 c2 c3 c4 v0 v1 v2 hst
            go_upto_region 14 with (fail)
            have kyF := (put5_other (W := w8) (.bool sC.mv) (.bool sC.al) (.int .i64 sC.place) (.slice A1 o1 q1) (.slice A2 o2 q2) (Nat.ne_of_lt hyz)).trans ky
            have kzF := put5_self (.bool sC.mv) (.bool sC.al) (.int .i64 sC.place) (.slice A1 o1 q1) (.slice A2 o2 q2) kz
            have hsF := put5_size (W := w8) (y := z) (.bool sC.mv) (.bool sC.al) (.int .i64 sC.place) (.slice A1 o1 q1) (.slice A2 o2 q2)
            have hA := (put5_st (.bool sC.mv) (.bool sC.al) (.int .i64 sC.place) (.slice A1 o1 q1) (.slice A2 o2 q2) hstC (.inl (Nat.le_refl _))).mono (show z ≤ (((((w8.setCell ⟨z, 0, none⟩ (.bool sC.mv)).setCell ⟨z, 1, none⟩ (.bool sC.al)).setCell ⟨z, 2, none⟩ (.int .i64 sC.place)).setCell ⟨z, 3, none⟩ (.slice A1 o1 q1)).setCell ⟨z, 4, none⟩ (.slice A2 o2 q2)).heap.size by rw [hsF]; omega)
            have hR := (put5_st (.bool sC.mv) (.bool sC.al) (.int .i64 sC.place) (.slice A1 o1 q1) (.slice A2 o2 q2) hstR (.inr ⟨fun a ha => Nat.lt_of_lt_of_le hzl (fr1 a ha), fun a ha => Nat.lt_of_lt_of_le hzl (fr2 a ha)⟩)).mono (show w8.heap.size ≤ (((((w8.setCell ⟨z, 0, none⟩ (.bool sC.mv)).setCell ⟨z, 1, none⟩ (.bool sC.al)).setCell ⟨z, 2, none⟩ (.int .i64 sC.place)).setCell ⟨z, 3, none⟩ (.slice A1 o1 q1)).setCell ⟨z, 4, none⟩ (.slice A2 o2 q2)).heap.size by rw [hsF]; exact Nat.le_refl _)
            have HF := Lib.hid (HB.out.trans (put5_below (W := w8) (B := w.heap.size) (y := z) (.bool sC.mv) (.bool sC.al) (.int .i64 sC.place) (.slice A1 o1 q1) (.slice A2 o2 q2) hzw))
            have HSF : w.heap.size ≤ (((((w8.setCell ⟨z, 0, none⟩ (.bool sC.mv)).setCell ⟨z, 1, none⟩ (.bool sC.al)).setCell ⟨z, 2, none⟩ (.int .i64 sC.place)).setCell ⟨z, 3, none⟩ (.slice A1 o1 q1)).setCell ⟨z, 4, none⟩ (.slice A2 o2 q2)).heap.size := by rw [hsF]; exact HB.out.size
            clear hsF t0 t1 t2 t3 t4 f0 f1 f2 f3 f4 ky kz hstR hstC HB fr1 fr2
            generalize (((((w8.setCell ⟨z, 0, none⟩ (.bool sC.mv)).setCell ⟨z, 1, none⟩ (.bool sC.al)).setCell ⟨z, 2, none⟩ (.int .i64 sC.place)).setCell ⟨z, 3, none⟩ (.slice A1 o1 q1)).setCell ⟨z, 4, none⟩ (.slice A2 o2 q2)) = w9 at *
            obtain ⟨r0, r1, r2, r3, r4⟩ := cells5 kyF
            obtain ⟨l0, l1, l2, l3, l4⟩ := cells5 kzF
            have Sm := Same_any w9 w9.heap.size B1 B2 A1 A2 n1 n2 p1 p2 o1 o2 q1 q2 sC sC hA hR (Nat.le_refl _)
            rw [sameB_self] at Sm
            simp only [stV] at Sm
            clear kyF kzF hA hR
            go_wp2_with (go_at_call 25; refine Sm.mono ?_; rintro e w10 ⟨rfl, hb10⟩)
            go_ret
            exact ⟨rfl, HF.out.trans (hb10.mono HSF)⟩
          · have hne : applyE d T S s k pl dr ≠ 0 := by rw [applyE_of_ev hV]; exact hV
            rw [if_neg hne] at hsC
            have hF2 : fullE d T S s k pl dr = evErrM d k pl dr := hF.trans (applyE_of_ev hV)
            obtain rfl := hsC
            have hV1 : (evErrM d k pl dr == 0) = false := beq_eq_false_iff_ne.2 hV
            simp only [hF2] at *
            generalize evErrM d k pl dr = c at *
            clear HSC hF hF2 hC hS hE hV hne R
            go_wp2_with fail
            refine (Dn _).mono ?_
            rintro e w4 ⟨rfl, hb1⟩
            replace d0 := kept hb1 d0
            replace d1 := kept hb1 d1
            replace d2 := kept hb1 d2
            replace c0 := kept hb1 c0
            replace c1 := kept hb1 c1
            replace c2 := kept hb1 c2
            replace c3 := kept hb1 c3
            replace c4 := kept hb1 c4
            replace v0 := kept hb1 v0
            replace v1 := kept hb1 v1
            replace v2 := kept hb1 v2
            replace hst := (hst.below hb1).mono hb1.size
            replace hstC := (hstC.below hb1).mono hb1.size
            replace ky := (hb1.block y (lt_of_block ky)).trans ky
            replace HB := Lib.hid (HB.out.trans (hb1.mono hs4))
            have hs5 := Nat.le_trans hs4 hb1.size
            clear hb1
            go_wp2_with fail
            refine (SE _ hst).mono ?_
            rintro e w5 ⟨rfl, hb1⟩
            replace d0 := kept hb1 d0
            replace d1 := kept hb1 d1
            replace d2 := kept hb1 d2
            replace c0 := kept hb1 c0
            replace c1 := kept hb1 c1
            replace c2 := kept hb1 c2
            replace c3 := kept hb1 c3
            replace c4 := kept hb1 c4
            replace v0 := kept hb1 v0
            replace v1 := kept hb1 v1
            replace v2 := kept hb1 v2
            replace hst := (hst.below hb1).mono hb1.size
            replace hstC := (hstC.below hb1).mono hb1.size
            replace ky := (hb1.block y (lt_of_block ky)).trans ky
            replace HB := Lib.hid (HB.out.trans (hb1.mono hs5))
            have hs6 := Nat.le_trans hs5 hb1.size
            clear hb1
            go_wp2_with fail
            refine (EV _).mono ?_
            rintro e w6 ⟨rfl, hb1⟩
            replace hst := (hst.below hb1).mono hb1.size
            replace hstC := (hstC.below hb1).mono hb1.size
            replace ky := (hb1.block y (lt_of_block ky)).trans ky
            replace HB := Lib.hid (HB.out.trans (hb1.mono hs6))
            have hs7 := Nat.le_trans hs6 hb1.size
            clear hb1
            clear d0 d1 d2 c0 c1 c2 c3 c4 v0 v1 v2
            go_upto_region 14 with (fail)
            have hb1 : Below w6.heap.size w6 (w6.alloc (.cells #[.bool false, .bool false, .int .i64 0, .slice none 0 0, .slice none 0 0] 28)) := (Below.refl _ _).alloc (Nat.le_refl _) _
            have kz : (w6.alloc (.cells #[.bool false, .bool false, .int .i64 0, .slice none 0 0, .slice none 0 0] 28)).heap[w6.heap.size]? = some (.cells #[.bool false, .bool false, .int .i64 0, .slice none 0 0, .slice none 0 0] 28 (0, 0)) := by rw [heapq_alloc, if_pos rfl]
            have hyz := lt_of_block ky
            replace hst := (hst.below hb1).mono hb1.size
            replace hstC := hstC.below hb1
            replace ky := (hb1.block y (lt_of_block ky)).trans ky
            replace HB := Lib.hid (HB.out.trans (hb1.mono hs7))
            have hzw := hs7
            have hs8 := Nat.le_trans hs7 hb1.size
            clear hb1
            generalize w6.alloc (.cells #[.bool false, .bool false, .int .i64 0, .slice none 0 0, .slice none 0 0] 28) = w7 at *
            generalize w6.heap.size = z at *
            obtain ⟨g0, g1, g2, g3, g4⟩ := cells5 ky
            obtain ⟨l0, l1, l2, l3, l4⟩ := cells5 kz
            have Sm := Same_any w7 w7.heap.size B1 B2 none none n1 n2 p1 p2 0 0 0 0 zeroTr zeroTr (hstC.mono (Nat.le_of_lt (lt_of_block kz))) (zeroAt _ _) (Nat.le_refl _)
            rw [sameB_self] at Sm
            simp only [stV] at Sm
            simp only [zeroTr] at Sm g0 g1 g2 g3 g4
            go_wp2_with (go_at_call 25; refine Sm.mono ?_; rintro e w9 ⟨rfl, hb1⟩)
            go_ret
            exact ⟨rfl, HB.out.trans (hb1.mono hs8)⟩
        · have hC : chkE D T S s = stateE D T S s := by unfold chkE; rw [if_pos hE]
          have hF : fullE D T S s k pl dr = stateE D T S s := by
            unfold fullE
            rw [hC, if_neg hS]
          have hsC := HSC.out
          rw [hF, if_neg hS] at hsC
          obtain rfl := hsC
          have SE := fun (W : World) (h : StAt W W.heap.size Ag Ad ng nd s) => StateErr_any W W.heap.size D T S Ag Ad ng nd cg cd s h (Nat.le_refl _) hT
          simp only [stV] at SE
          have hV1 : (stateE D T S s == 0) = false := beq_eq_false_iff_ne.2 hS
          simp only [hF] at *
          generalize stateE D T S s = c at *
          clear HSC hF hC hS hE
          go_wp2_with fail
          refine (Dn _).mono ?_
          rintro e w4 ⟨rfl, hb1⟩
          replace d0 := kept hb1 d0
          replace d1 := kept hb1 d1
          replace d2 := kept hb1 d2
          replace c0 := kept hb1 c0
          replace c1 := kept hb1 c1
          replace c2 := kept hb1 c2
          replace c3 := kept hb1 c3
          replace c4 := kept hb1 c4
          replace v0 := kept hb1 v0
          replace v1 := kept hb1 v1
          replace v2 := kept hb1 v2
          replace hst := (hst.below hb1).mono hb1.size
          replace hstC := (hstC.below hb1).mono hb1.size
          replace ky := (hb1.block y (lt_of_block ky)).trans ky
          replace HB := Lib.hid (HB.out.trans (hb1.mono hs4))
          have hs5 := Nat.le_trans hs4 hb1.size
          clear hb1
          go_wp2_with fail
          refine (SE _ hst).mono ?_
          rintro e w5 ⟨rfl, hb1⟩
          replace hst := (hst.below hb1).mono hb1.size
          replace hstC := (hstC.below hb1).mono hb1.size
          replace ky := (hb1.block y (lt_of_block ky)).trans ky
          replace HB := Lib.hid (HB.out.trans (hb1.mono hs5))
          have hs6 := Nat.le_trans hs5 hb1.size
          clear hb1
          clear d0 d1 d2 c0 c1 c2 c3 c4 v0 v1 v2
          go_upto_region 14 with (fail)
          have hb1 : Below w5.heap.size w5 (w5.alloc (.cells #[.bool false, .bool false, .int .i64 0, .slice none 0 0, .slice none 0 0] 28)) := (Below.refl _ _).alloc (Nat.le_refl _) _
          have kz : (w5.alloc (.cells #[.bool false, .bool false, .int .i64 0, .slice none 0 0, .slice none 0 0] 28)).heap[w5.heap.size]? = some (.cells #[.bool false, .bool false, .int .i64 0, .slice none 0 0, .slice none 0 0] 28 (0, 0)) := by rw [heapq_alloc, if_pos rfl]
          have hyz := lt_of_block ky
          replace hst := (hst.below hb1).mono hb1.size
          replace hstC := hstC.below hb1
          replace ky := (hb1.block y (lt_of_block ky)).trans ky
          replace HB := Lib.hid (HB.out.trans (hb1.mono hs6))
          have hzw := hs6
          have hs8 := Nat.le_trans hs6 hb1.size
          clear hb1
          generalize w5.alloc (.cells #[.bool false, .bool false, .int .i64 0, .slice none 0 0, .slice none 0 0] 28) = w7 at *
          generalize w5.heap.size = z at *
          obtain ⟨g0, g1, g2, g3, g4⟩ := cells5 ky
          obtain ⟨l0, l1, l2, l3, l4⟩ := cells5 kz
          have Sm := Same_any w7 w7.heap.size B1 B2 none none n1 n2 p1 p2 0 0 0 0 zeroTr zeroTr (hstC.mono (Nat.le_of_lt (lt_of_block kz))) (zeroAt _ _) (Nat.le_refl _)
          rw [sameB_self] at Sm
          simp only [stV] at Sm
          simp only [zeroTr] at Sm g0 g1 g2 g3 g4
          go_wp2_with (go_at_call 25; refine Sm.mono ?_; rintro e w9 ⟨rfl, hb1⟩)
          go_ret
          exact ⟨rfl, HB.out.trans (hb1.mono hs8)⟩
      · have hC : chkE D T S s = doorsE D T S := by unfold chkE; rw [if_neg hE]
        have hF : fullE D T S s k pl dr = doorsE D T S := by
          unfold fullE
          rw [hC, if_neg hE]
        have hsC := HSC.out
        rw [hF, if_neg hE] at hsC
        obtain rfl := hsC
        have hV1 : (doorsE D T S == 0) = false := beq_eq_false_iff_ne.2 hE
        simp only [hF] at *
        generalize doorsE D T S = c at *
        clear HSC hF hC hE
        go_wp2_with fail
        refine (Dn _).mono ?_
        rintro e w4 ⟨rfl, hb1⟩
        replace hst := (hst.below hb1).mono hb1.size
        replace hstC := (hstC.below hb1).mono hb1.size
        replace ky := (hb1.block y (lt_of_block ky)).trans ky
        replace HB := Lib.hid (HB.out.trans (hb1.mono hs4))
        have hs5 := Nat.le_trans hs4 hb1.size
        clear hb1
        clear d0 d1 d2 c0 c1 c2 c3 c4 v0 v1 v2
        go_upto_region 14 with (fail)
        have hb1 : Below w4.heap.size w4 (w4.alloc (.cells #[.bool false, .bool false, .int .i64 0, .slice none 0 0, .slice none 0 0] 28)) := (Below.refl _ _).alloc (Nat.le_refl _) _
        have kz : (w4.alloc (.cells #[.bool false, .bool false, .int .i64 0, .slice none 0 0, .slice none 0 0] 28)).heap[w4.heap.size]? = some (.cells #[.bool false, .bool false, .int .i64 0, .slice none 0 0, .slice none 0 0] 28 (0, 0)) := by rw [heapq_alloc, if_pos rfl]
        have hyz := lt_of_block ky
        replace hst := (hst.below hb1).mono hb1.size
        replace hstC := hstC.below hb1
        replace ky := (hb1.block y (lt_of_block ky)).trans ky
        replace HB := Lib.hid (HB.out.trans (hb1.mono hs5))
        have hzw := hs5
        have hs8 := Nat.le_trans hs5 hb1.size
        clear hb1
        generalize w4.alloc (.cells #[.bool false, .bool false, .int .i64 0, .slice none 0 0, .slice none 0 0] 28) = w7 at *
        generalize w4.heap.size = z at *
        obtain ⟨g0, g1, g2, g3, g4⟩ := cells5 ky
        obtain ⟨l0, l1, l2, l3, l4⟩ := cells5 kz
        have Sm := Same_any w7 w7.heap.size B1 B2 none none n1 n2 p1 p2 0 0 0 0 zeroTr zeroTr (hstC.mono (Nat.le_of_lt (lt_of_block kz))) (zeroAt _ _) (Nat.le_refl _)
        rw [sameB_self] at Sm
        simp only [stV] at Sm
        simp only [zeroTr] at Sm g0 g1 g2 g3 g4
        go_wp2_with (go_at_call 25; refine Sm.mono ?_; rintro e w9 ⟨rfl, hb1⟩)
        go_ret
        exact ⟨rfl, HB.out.trans (hb1.mono hs8)⟩
  · have hf' : (decide ((ng : Int) ≤ 8) && decide ((nd : Int) ≤ 8)) = false := by simpa using hf
    go_wp2_with fail
    refine (F _ hf').mono ?_
    rintro e w2 ⟨rfl, hb1⟩
    go_wp2
    go_ret
    exact ⟨rfl, HB.out.trans (hb1.mono hs2)⟩
end Go.Proofs.YtmcjnfghlpnghaaDoor

namespace Go.Proofs.YtmcjnfghlpnghaaDoor
open Go.RowKit

theorem CareStates_big (w : World) (D T S : Int) (Ag Ad : Option Addr) (ng nd cg cd : Nat) (s : Tr) (hk : KindsAt w) (hf : (decide ((ng : Int) ≤ 8) && decide ((nd : Int) ≤ 8)) = false) :
    Calls Tryd.prog 6 #[.agg #[.int .i64 D, .int .i64 T, .int .i64 S], stV s Ag Ad ng nd cg cd] w (AwakePost w) := by
  have hb0 : Below w.heap.size w ((w.alloc (.cells #[.int .i64 D, .int .i64 T, .int .i64 S] 23)).alloc (.cells #[.bool s.mv, .bool s.al, .int .i64 s.place, .slice Ag ng cg, .slice Ad nd cd] 28)) := ((Below.refl _ _).alloc (Nat.le_refl _) _).alloc (by simp) _
  have hs1 : w.heap.size ≤ ((w.alloc (.cells #[.int .i64 D, .int .i64 T, .int .i64 S] 23)).alloc (.cells #[.bool s.mv, .bool s.al, .int .i64 s.place, .slice Ag ng cg, .slice Ad nd cd] 28)).heap.size := hb0.size
  have k1 : ((w.alloc (.cells #[.int .i64 D, .int .i64 T, .int .i64 S] 23)).alloc (.cells #[.bool s.mv, .bool s.al, .int .i64 s.place, .slice Ag ng cg, .slice Ad nd cd] 28)).heap[w.heap.size + 1]? = some (.cells #[.bool s.mv, .bool s.al, .int .i64 s.place, .slice Ag ng cg, .slice Ad nd cd] 28 (0, 0)) := by
    rw [heapq_alloc, if_pos (by simp)]
  obtain ⟨c0, c1, c2, c3, c4⟩ := cells5 k1
  have A0 := awake_any _ (hk.below hb0)
  have HB := Lib.hid hb0
  clear hb0 hk k1
  simp only [stV]
  go_enter Tryd.func6, Tryd.ntmps6
  go_upto_region 1 with (fail)
  generalize ((w.alloc (.cells #[.int .i64 D, .int .i64 T, .int .i64 S] 23)).alloc (.cells #[.bool s.mv, .bool s.al, .int .i64 s.place, .slice Ag ng cg, .slice Ad nd cd] 28)) = w0 at *
  go_wp2_with fail
  refine A0.mono ?_
  rintro e w1 ⟨rfl, hb1⟩
  replace c0 := kept hb1 c0
  replace c1 := kept hb1 c1
  replace c2 := kept hb1 c2
  replace c3 := kept hb1 c3
  replace c4 := kept hb1 c4
  replace HB := Lib.hid (HB.out.trans (hb1.mono hs1))
  have hs2 := Nat.le_trans hs1 hb1.size
  clear hb1 A0
  have F := fun b hb => few_any w1 Ag Ad ng nd cg cd s b hb
  simp only [stV] at F
  go_wp2_with fail
  refine (F _ hf).mono ?_
  rintro e w2 ⟨rfl, hb1⟩
  go_wp2
  go_ret
  exact ⟨rfl, HB.out.trans (hb1.mono hs2)⟩

theorem CareStates_all (w : World) (D T S : Int) (Ag Ad : Option Addr) (ng nd cg cd : Nat) (s : Tr) (hk : KindsAt w)
    (h : s.gates.length = ng ∧ s.doors.length = nd ∧ Rd w w.heap.size Ag (s.gates.map .bool) ∧ Rd w w.heap.size Ad (s.doors.map .bool)) :
    Calls Tryd.prog 6 #[.agg #[.int .i64 D, .int .i64 T, .int .i64 S], stV s Ag Ad ng nd cg cd] w (AwakePost w) := by
  cases hf : (decide ((ng : Int) ≤ 8) && decide ((nd : Int) ≤ 8)) with
  | false => exact CareStates_big w D T S Ag Ad ng nd cg cd s hk hf
  | true =>
    simp only [Bool.and_eq_true, decide_eq_true_eq] at hf
    exact CareStates_any w D T S Ag Ad ng nd cg cd s hk ⟨h.1, h.2.1, h.2.2.1, h.2.2.2, by omega, by omega⟩

theorem CareApplies_big (w : World) (D T S : Int) (Ag Ad : Option Addr) (ng nd cg cd : Nat) (s : Tr) (k pl dr : Int) (hk : KindsAt w) (hf : (decide ((ng : Int) ≤ 8) && decide ((nd : Int) ≤ 8)) = false) :
    Calls Tryd.prog 7 #[.agg #[.int .i64 D, .int .i64 T, .int .i64 S], stV s Ag Ad ng nd cg cd, .agg #[.int .i64 k, .int .i64 pl, .int .i64 dr]] w (AwakePost w) := by
  have hb0 : Below w.heap.size w (((w.alloc (.cells #[.int .i64 D, .int .i64 T, .int .i64 S] 23)).alloc (.cells #[.bool s.mv, .bool s.al, .int .i64 s.place, .slice Ag ng cg, .slice Ad nd cd] 28)).alloc (.cells #[.int .i64 k, .int .i64 pl, .int .i64 dr] 66)) := (((Below.refl _ _).alloc (Nat.le_refl _) _).alloc (by simp) _).alloc (by simp; omega) _
  have hs1 : w.heap.size ≤ (((w.alloc (.cells #[.int .i64 D, .int .i64 T, .int .i64 S] 23)).alloc (.cells #[.bool s.mv, .bool s.al, .int .i64 s.place, .slice Ag ng cg, .slice Ad nd cd] 28)).alloc (.cells #[.int .i64 k, .int .i64 pl, .int .i64 dr] 66)).heap.size := hb0.size
  have k1 : (((w.alloc (.cells #[.int .i64 D, .int .i64 T, .int .i64 S] 23)).alloc (.cells #[.bool s.mv, .bool s.al, .int .i64 s.place, .slice Ag ng cg, .slice Ad nd cd] 28)).alloc (.cells #[.int .i64 k, .int .i64 pl, .int .i64 dr] 66)).heap[w.heap.size + 1]? = some (.cells #[.bool s.mv, .bool s.al, .int .i64 s.place, .slice Ag ng cg, .slice Ad nd cd] 28 (0, 0)) := by
    rw [heapq_alloc, if_neg (by simp), heapq_alloc, if_pos (by simp)]
  obtain ⟨c0, c1, c2, c3, c4⟩ := cells5 k1
  have A0 := awake_any _ (hk.below hb0)
  have HB := Lib.hid hb0
  clear hb0 hk k1
  simp only [stV]
  go_enter Tryd.func7, Tryd.ntmps7
  go_upto_region 1 with (fail)
  generalize (((w.alloc (.cells #[.int .i64 D, .int .i64 T, .int .i64 S] 23)).alloc (.cells #[.bool s.mv, .bool s.al, .int .i64 s.place, .slice Ag ng cg, .slice Ad nd cd] 28)).alloc (.cells #[.int .i64 k, .int .i64 pl, .int .i64 dr] 66)) = w0 at *
  go_wp2_with fail
  refine A0.mono ?_
  rintro e w1 ⟨rfl, hb1⟩
  replace c0 := kept hb1 c0
  replace c1 := kept hb1 c1
  replace c2 := kept hb1 c2
  replace c3 := kept hb1 c3
  replace c4 := kept hb1 c4
  replace HB := Lib.hid (HB.out.trans (hb1.mono hs1))
  have hs2 := Nat.le_trans hs1 hb1.size
  clear hb1 A0
  have F := fun b hb => few_any w1 Ag Ad ng nd cg cd s b hb
  simp only [stV] at F
  go_wp2_with fail
  refine (F _ hf).mono ?_
  rintro e w2 ⟨rfl, hb1⟩
  go_wp2
  go_ret
  exact ⟨rfl, HB.out.trans (hb1.mono hs2)⟩

theorem CareApplies_all (w : World) (D T S : Int) (Ag Ad : Option Addr) (ng nd cg cd : Nat) (s : Tr) (k pl dr : Int) (hk : KindsAt w)
    (h : s.gates.length = ng ∧ s.doors.length = nd ∧ Rd w w.heap.size Ag (s.gates.map .bool) ∧ Rd w w.heap.size Ad (s.doors.map .bool)) :
    Calls Tryd.prog 7 #[.agg #[.int .i64 D, .int .i64 T, .int .i64 S], stV s Ag Ad ng nd cg cd, .agg #[.int .i64 k, .int .i64 pl, .int .i64 dr]] w (AwakePost w) := by
  cases hf : (decide ((ng : Int) ≤ 8) && decide ((nd : Int) ≤ 8)) with
  | false => exact CareApplies_big w D T S Ag Ad ng nd cg cd s k pl dr hk hf
  | true =>
    simp only [Bool.and_eq_true, decide_eq_true_eq] at hf
    exact CareApplies_any w D T S Ag Ad ng nd cg cd s k pl dr hk ⟨h.1, h.2.1, h.2.2.1, h.2.2.2, by omega, by omega⟩

end Go.Proofs.YtmcjnfghlpnghaaDoor
