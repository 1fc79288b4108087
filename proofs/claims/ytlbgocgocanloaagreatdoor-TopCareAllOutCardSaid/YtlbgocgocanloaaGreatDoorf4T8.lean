/- What a text of an event tells: the code's and the reference's. -/
import Derived.Test.YtlbgocgocanloaaGreatDoorf4T7
namespace Go.Proofs.YtlbgocgocanloaaGreatDoor
open Go.RowKit
def evP (r : Option (Int × Int × Int)) : Value := match r with
  | some x => .tuple #[.agg #[.int .i64 x.1, .int .i64 x.2.1, .int .i64 x.2.2], .int .i64 0]
  | none => .tuple #[.agg #[.int .i64 0, .int .i64 0, .int .i64 0], .int .i64 7]
def EvTPost (w : World) (r : Option (Int × Int × Int)) (e : Ending) (w' : World) : Prop := e = .returned (evP r) ∧ Below w.heap.size w w'
theorem res3 {W : World} {r t : Nat} {a0 a1 a2 : Value} (h : W.heap[r]? = some (.cells #[a0, a1, a2] t (0, 0))) :
    W.cell? ⟨r, 0, none⟩ = some a0 ∧ W.cell? ⟨r, 1, none⟩ = some a1 ∧ W.cell? ⟨r, 2, none⟩ = some a2 ∧
    W.frozen? ⟨r, 0, none⟩ = false ∧ W.frozen? ⟨r, 1, none⟩ = false ∧ W.frozen? ⟨r, 2, none⟩ = false := by
  refine ⟨?_, ?_, ?_, frozen_of_row _ _ _ _ _ h, frozen_of_row _ _ _ _ _ h, frozen_of_row _ _ _ _ _ h⟩ <;> rw [cell_of_row _ _ _ _ _ _ h] <;> rfl
def CutPost (w : World) (p r : ByteArray) (m : Bool) (e : Ending) (w' : World) : Prop := e = .returned (.tuple #[.string p, .string r, .bool m]) ∧ Below w.heap.size w w'
theorem drewN_below (w : World) (n : Nat) : Below w.heap.size w (w.drewN n) := ⟨rfl, rfl, rfl, Nat.le_refl _, fun _ _ => rfl⟩
theorem sCut_any (s : ByteArray) (hs : s.size ≤ 1000000) (w : World) (ht : TxtAt w) :
    Calls Tryz.prog 44 #[.string s, .string ⟨#[32]⟩] w (CutPost w (ba (Lib.cut s.data.toList [32]).1) (ba (Lib.cut s.data.toList [32]).2.1) (Lib.cut s.data.toList [32]).2.2) := by
  obtain ⟨m, hm⟩ := ht.mx
  exact (Tryz.strings_Cut s ⟨#[32]⟩ m w (by omega) hm).mono fun e w' ⟨he, n, hw⟩ => ⟨he, hw ▸ drewN_below w n⟩
theorem cut_len (l : List UInt8) : (Lib.cut l [32]).2.1.length ≤ l.length := by
  rcases spl_mem l with ⟨p, r, rfl, hp⟩ | h
  · rw [cut_pre p r hp]; simp; omega
  · rw [cut_no l h]; simp
set_option maxRecDepth 100000 in
set_option maxHeartbeats 8000000 in
theorem ParseEvent_any (s : ByteArray) (hs : s.size ≤ 1000000) (w : World) (ht : TxtAt w) : Calls Tryz.prog 9 #[.string s] w (EvTPost w (parE s.data.toList)) := by
  have CC := fun W hW => sCut_any s hs W hW
  have hlr := cut_len s.data.toList
  rw [← Lib.size_eq] at hlr
  have hpar := parE_cut s.data.toList
  generalize Lib.cut s.data.toList [32] = cc at *
  obtain ⟨p, r, m⟩ := cc
  simp only at hpar hlr CC
  have hb0 : Below w.heap.size w (w.alloc (.cells #[.int .i64 0, .int .i64 0, .int .i64 0] 23)) := (Below.refl _ _).alloc (Nat.le_refl _) _
  have hr0 : (w.alloc (.cells #[.int .i64 0, .int .i64 0, .int .i64 0] 23)).heap[w.heap.size]? = some (.cells #[.int .i64 0, .int .i64 0, .int .i64 0] 23 (0, 0)) := by rw [heapq_alloc, if_pos rfl]
  have hz0 : w.heap.size < (w.alloc (.cells #[.int .i64 0, .int .i64 0, .int .i64 0] 23)).heap.size := by simp
  have ht0 := ht.below hb0
  generalize parE s.data.toList = R at *
  have HP := Lib.hid hpar
  have NUM : ∀ W, TxtAt W → Calls Tryz.prog 47 #[.string (ba r), .int .i64 ((10 : Nat) : Int)] W (NumPost W r 10) := fun W hW => by
    have := number_any (ba r) 10 (by omega) (by rw [ba_size]; omega) W hW
    rw [ba_data] at this
    exact this
  clear hpar hlr hs ht
  go_enter Tryz.func9, Tryz.ntmps9
  go_upto_region 1 with (fail)
  generalize (w.alloc (.cells #[.int .i64 0, .int .i64 0, .int .i64 0] 23)) = w0 at *
  generalize hx : w.heap.size = x at *
  have HX := Lib.hid hx
  clear hx
  replace CC := CC _ ht0
  go_upto_region 2 with (go_at_call 44; refine CC.mono ?_; rintro e w1 ⟨rfl, hb1⟩)
  have hx1 : x < w1.heap.size := Nat.lt_of_lt_of_le hz0 hb1.size
  have hr1 := (hb1.block x hz0).trans hr0
  have hb2 : Below w0.heap.size w0 (w1.alloc (.cells #[.string (ba p)] 9)) := hb1.alloc hb1.size _
  have hc2 : (w1.alloc (.cells #[.string (ba p)] 9)).cell? ⟨w1.heap.size, 0, none⟩ = some (.string (ba p)) := by simp
  have hr2 : (w1.alloc (.cells #[.string (ba p)] 9)).heap[x]? = some (.cells #[.int .i64 0, .int .i64 0, .int .i64 0] 23 (0, 0)) := by rw [heapq_alloc, if_neg (by omega)]; exact hr1
  have ht2 := ht0.below hb2
  have hbx2 : Below x w (w1.alloc (.cells #[.string (ba p)] 9)) := hb0.trans (hb2.mono (by omega))
  have IK := IndexK_any (ba p) w1.heap.size _ ht2.kinds hc2
  rw [ba_data] at IK
  have hx2 : x < (w1.alloc (.cells #[.string (ba p)] 9)).heap.size := by simp; omega
  clear CC hb1 hr0 hr1 hb2 hc2 hb0 ht0 hz0
  generalize (w1.alloc (.cells #[.string (ba p)] 9)) = w2 at *
  generalize ba p = bp at *
  generalize ba r = br at *
  go_upto_region 3 with (go_at_call 45; refine IK.mono ?_; rintro e w3 ⟨rfl, hb3⟩)
  have hr3 := (hb3.block x hx2).trans hr2
  have ht3 := ht2.below hb3
  have hx3 : x < w3.heap.size := Nat.lt_of_lt_of_le hx2 hb3.size
  have hbx3 : Below x w w3 := hbx2.trans (hb3.mono (by omega))
  clear IK hr2 ht2 hbx2 hb3 hx2 hx1
  unfold findV
  cases hf : findK p with
  | none =>
    have HR : Hid (R = none) := by
      have := HP.out
      rw [hf] at this
      exact this
    have HB := Lib.hid hbx3
    obtain ⟨t0, t1, t2, q0, q1, q2⟩ := res3 hr3
    clear hf hbx3 hr3 ht3
    simp only
    go_wp2
    refine bodyPost_ret (v := evP R) (by simp [results, Tryz.results9, go_sem, HR.out, evP, t0, t1, t2]) rfl ⟨rfl, ?_⟩
    rw [HX.out]
    exact (((HB.out.setCell (by simp) _).setCell (by simp) _).setCell (by simp) _)
  | some k =>
    have hP := HP.out
    rw [hf] at hP
    simp only at hP
    obtain ⟨hk8, _⟩ := findK_some hf
    clear hf HP
    obtain ⟨fn, c0, c1, c2, c3⟩ := kind_cells ht3.kinds k hk8
    have hki : ¬ (k : Int) < 0 := by omega
    have hki8 : (k : Int) < 8 := by omega
    have hU : useB k = (decide (k = 1) || (decide (2 ≤ k) && decide (k ≤ 5))) := by
      unfold useB
      rw [Bool.eq_iff_iff]
      simp
      omega
    simp only
    have HBX := Lib.hid hbx3
    generalize hP1 : decide (k = 1) = p1 at *
    generalize hP2 : (decide (2 ≤ k) && decide (k ≤ 5)) = p2 at *
    rw [hU] at hP
    obtain ⟨t0, t1, t2, q0, q1, q2⟩ := res3 hr3
    by_cases hmis : m = (p1 || p2)
    · rw [if_pos hmis] at hP
      cases m with
      | false =>
        have hp12 : p1 = false ∧ p2 = false := by
          cases p1
          · cases p2
            · exact ⟨rfl, rfl⟩
            · cases hmis
          · cases hmis
        obtain ⟨rfl, rfl⟩ := hp12
        have HR : Hid (R = some ((k : Int), 0, 0)) := hP
        have hne : x ≠ w3.heap.size := by omega
        have hne2 : w3.heap.size ≠ x := by omega
        clear hP hmis hU hP1 hP2 hbx3 ht3 NUM
        go_upto_region 6 with (fail)
        have hb4 : Below w3.heap.size w3 (w3.alloc (.cells #[.int .i64 (k : Int), .int .i64 0, .int .i64 0] 23)) := (Below.refl _ _).alloc (Nat.le_refl _) _
        have hr4 : (w3.alloc (.cells #[.int .i64 (k : Int), .int .i64 0, .int .i64 0] 23)).heap[w3.heap.size]? = some (.cells #[.int .i64 (k : Int), .int .i64 0, .int .i64 0] 23 (0, 0)) := by rw [heapq_alloc, if_pos rfl]
        have hR4 := (hb4.block x hx3).trans hr3
        generalize w3.alloc (.cells #[.int .i64 (k : Int), .int .i64 0, .int .i64 0] 23) = w4 at *
        have HB4 : Hid (Below x w w4) := HBX.out.trans (hb4.mono (by omega))
        clear t0 t1 t2 q0 q1 q2 hb4 hr3 c0 c1 c2 c3
        generalize w3.heap.size = y at *
        obtain ⟨t0, t1, t2, q0, q1, q2⟩ := res3 hR4
        obtain ⟨u0, u1, u2, r0, r1, r2⟩ := res3 hr4
        clear hR4 hr4
        go_wp2
        refine bodyPost_ret (v := evP R) (by simp [results, Tryz.results9, go_sem, HR.out, evP, t0, t1, t2]) rfl ⟨rfl, ?_⟩
        rw [HX.out]
        exact (((HB4.out.setCell (by simp) _).setCell (by simp) _).setCell (by simp) _)
      | true =>
        rw [if_pos hmis.symm] at hP
        have hb4 : Below w3.heap.size w3 (w3.alloc (.cells #[.int .i64 (k : Int), .int .i64 0, .int .i64 0] 23)) := (Below.refl _ _).alloc (Nat.le_refl _) _
        have hr4 : (w3.alloc (.cells #[.int .i64 (k : Int), .int .i64 0, .int .i64 0] 23)).heap[w3.heap.size]? = some (.cells #[.int .i64 (k : Int), .int .i64 0, .int .i64 0] 23 (0, 0)) := by rw [heapq_alloc, if_pos rfl]
        have hs4 : w3.heap.size < (w3.alloc (.cells #[.int .i64 (k : Int), .int .i64 0, .int .i64 0] 23)).heap.size := by simp
        have NUM4 := NUM _ (ht3.below hb4)
        have K4 := Lib.hid (ht3.kinds)
        have hR4 := (hb4.block x hx3).trans hr3
        clear hU NUM ht3 t0 t1 t2 q0 q1 q2 hr3
        have hpd : p1 = true ∨ (p1 = false ∧ p2 = true) := by
          cases p1
          · right; exact ⟨rfl, by cases p2; cases hmis; rfl⟩
          · left; rfl
        clear hmis
        rcases hpd with rfl | ⟨rfl, rfl⟩
        · go_upto_region 8 with (fail)
          generalize w3.alloc (.cells #[.int .i64 (k : Int), .int .i64 0, .int .i64 0] 23) = w4 at *
          go_upto_region 9 with (go_at_call 47; refine NUM4.mono ?_; rintro e w5 ⟨n, rfl, hn, hb5⟩)
          have hb35 : Below w3.heap.size w3 w5 := hb4.trans (hb5.mono (by omega))
          have K5 := K4.out.below hb35
          obtain ⟨fn5, d0, d1, d2, d3⟩ := kind_cells K5 k hk8
          rw [hP1] at d1
          rw [hP2] at d2
          obtain ⟨t0, t1, t2, q0, q1, q2⟩ := res3 ((hb5.block x (by omega)).trans hR4)
          obtain ⟨u0, u1, u2, r0, r1, r2⟩ := res3 ((hb5.block w3.heap.size (by omega)).trans hr4)
          have hne : x ≠ w3.heap.size := by omega
          have hne2 : w3.heap.size ≠ x := by omega
          have hle : x ≤ w3.heap.size := by omega
          have HB5 : Hid (Below x w w5) := HBX.out.trans (hb35.mono hle)
          clear hb4 hr4 hs4 NUM4 K4 hR4 hb5 hb35 K5 HBX hbx3 c0 c1 c2 c3 hx3
          generalize w3.heap.size = y at *
          cases hN : numL r 10 with
          | none =>
            have HR : Hid (R = none) := by rw [Hid, hP, numE, hN]
            simp only [Option.isSome_none]
            clear hN hn hP
            go_wp2
            refine bodyPost_ret (v := evP R) (by simp [results, Tryz.results9, go_sem, HR.out, evP, t0, t1, t2]) rfl ⟨rfl, ?_⟩
            rw [HX.out]
            exact (((HB5.out.setCell (by simp) _).setCell (by simp) _).setCell (by simp) _)
          | some v =>
            obtain rfl := hn v hN
            simp only [Option.isSome_some]
            by_cases hneg : n < 0
            · have HR : Hid (R = none) := by rw [Hid, hP, numE, hN]; simp only; rw [if_pos hneg]
              clear hN hn hP
              go_wp2
              refine bodyPost_ret (v := evP R) (by simp [results, Tryz.results9, go_sem, HR.out, evP, t0, t1, t2]) rfl ⟨rfl, ?_⟩
              rw [HX.out]
              exact (((HB5.out.setCell (by simp) _).setCell (by simp) _).setCell (by simp) _)
            · have HR : Hid (R = some ((k : Int), n, 0)) := by rw [Hid, hP, numE, hN]; simp only; rw [if_neg hneg, if_pos (by simpa using hP1)]
              clear hN hn hP hP1 hP2
              go_wp2
              refine bodyPost_ret (v := evP R) (by simp [results, Tryz.results9, go_sem, HR.out, evP, t0, t1, t2]) rfl ⟨rfl, ?_⟩
              rw [HX.out]
              exact ((((HB5.out.setCell (by simpa using hle) _).setCell (by simp) _).setCell (by simp) _).setCell (by simp) _)
        · go_upto_region 8 with (fail)
          generalize w3.alloc (.cells #[.int .i64 (k : Int), .int .i64 0, .int .i64 0] 23) = w4 at *
          go_upto_region 9 with (go_at_call 47; refine NUM4.mono ?_; rintro e w5 ⟨n, rfl, hn, hb5⟩)
          have hb35 : Below w3.heap.size w3 w5 := hb4.trans (hb5.mono (by omega))
          have K5 := K4.out.below hb35
          obtain ⟨fn5, d0, d1, d2, d3⟩ := kind_cells K5 k hk8
          rw [hP1] at d1
          rw [hP2] at d2
          obtain ⟨t0, t1, t2, q0, q1, q2⟩ := res3 ((hb5.block x (by omega)).trans hR4)
          obtain ⟨u0, u1, u2, r0, r1, r2⟩ := res3 ((hb5.block w3.heap.size (by omega)).trans hr4)
          have hne : x ≠ w3.heap.size := by omega
          have hne2 : w3.heap.size ≠ x := by omega
          have hle : x ≤ w3.heap.size := by omega
          have HB5 : Hid (Below x w w5) := HBX.out.trans (hb35.mono hle)
          clear hb4 hr4 hs4 NUM4 K4 hR4 hb5 hb35 K5 HBX hbx3 c0 c1 c2 c3 hx3
          generalize w3.heap.size = y at *
          cases hN : numL r 10 with
          | none =>
            have HR : Hid (R = none) := by rw [Hid, hP, numE, hN]
            simp only [Option.isSome_none]
            clear hN hn hP
            go_wp2
            refine bodyPost_ret (v := evP R) (by simp [results, Tryz.results9, go_sem, HR.out, evP, t0, t1, t2]) rfl ⟨rfl, ?_⟩
            rw [HX.out]
            exact (((HB5.out.setCell (by simp) _).setCell (by simp) _).setCell (by simp) _)
          | some v =>
            obtain rfl := hn v hN
            simp only [Option.isSome_some]
            by_cases hneg : n < 0
            · have HR : Hid (R = none) := by rw [Hid, hP, numE, hN]; simp only; rw [if_pos hneg]
              clear hN hn hP
              go_wp2
              refine bodyPost_ret (v := evP R) (by simp [results, Tryz.results9, go_sem, HR.out, evP, t0, t1, t2]) rfl ⟨rfl, ?_⟩
              rw [HX.out]
              exact (((HB5.out.setCell (by simp) _).setCell (by simp) _).setCell (by simp) _)
            · have HR : Hid (R = some ((k : Int), 0, n)) := by rw [Hid, hP, numE, hN]; simp only; rw [if_neg hneg, if_neg (by simpa using hP1)]
              clear hN hn hP hP1 hP2
              go_wp2
              refine bodyPost_ret (v := evP R) (by simp [results, Tryz.results9, go_sem, HR.out, evP, t0, t1, t2]) rfl ⟨rfl, ?_⟩
              rw [HX.out]
              exact ((((HB5.out.setCell (by simpa using hle) _).setCell (by simp) _).setCell (by simp) _).setCell (by simp) _)
    · have HR : Hid (R = none) := by rw [Hid, hP, if_neg hmis]
      clear hP hU hbx3 hr3 ht3 NUM
      cases m <;> cases p1 <;> cases p2
      all_goals first
        | exact absurd rfl hmis
        | (clear hmis
           go_wp2
           refine bodyPost_ret (v := evP R) (by simp [results, Tryz.results9, go_sem, HR.out, evP, t0, t1, t2]) rfl ⟨rfl, ?_⟩
           rw [HX.out]
           exact (((HBX.out.setCell (by simp) _).setCell (by simp) _).setCell (by simp) _))
end Go.Proofs.YtlbgocgocanloaaGreatDoor
