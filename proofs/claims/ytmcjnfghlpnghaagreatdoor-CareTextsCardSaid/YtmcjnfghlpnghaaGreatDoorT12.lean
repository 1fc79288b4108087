/- What a text of a finding tells: the reference's walk. -/
import Derived.Test.YtmcjnfghlpnghaaGreatDoorT10
namespace Go.Proofs.YtmcjnfghlpnghaaGreatDoor
open Go.RowKit

theorem hasT_four (a x y z : List UInt8) : hasT [ba a, ba x, ba y, ba z] ⟨#[]⟩ = (decide (a = []) || decide (x = []) || decide (y = []) || decide (z = [])) := by
  have e : (⟨#[]⟩ : ByteArray) = ba [] := rfl
  simp only [hasT, List.any_cons, List.any_nil, e, beq_ba, Bool.or_false, Bool.or_assoc]
theorem numL_nil : numL [] 9 = none := by simp [numL, numB, magL, negL]
theorem parF_empty {l a x y z : List UInt8} (h : spl l = [a, x, y, z]) (he : (decide (a = []) || decide (x = []) || decide (y = []) || decide (z = [])) = true) : parF l = none := by
  by_cases ha : a = []
  · subst ha; exact parF_head h
  · by_cases hx : x = []
    · subst hx; exact parF_no1 h ha numL_nil
    · by_cases hy : y = []
      · subst hy; exact parF_no2 h ha numL_nil
      · by_cases hz : z = []
        · subst hz; exact parF_no3 h ha numL_nil
        · simp [ha, hx, hy, hz] at he
theorem numP_none {l : List UInt8} {m : Nat} (h : numL l m = none) : numP l m = .tuple #[.int .i64 0, .bool false] := by rw [numP, h]
theorem numP_some {l : List UInt8} {m : Nat} {v : Int} (h : numL l m = some v) : numP l m = .tuple #[.int .i64 v, .bool true] := by rw [numP, h]

set_option maxRecDepth 100000 in
set_option maxHeartbeats 8000000 in
theorem refParseFinding_any (s : ByteArray) (hs : s.size ≤ 1000000) (w : World) : Calls Tryz.prog 12 #[.string s] w (FdTPost w (parF s.data.toList)) := by
  have CC := fun W => refCut_any s hs W
  have hpart := splB_part s
  have hspB : splB s = (spl s.data.toList).map ba := rfl
  have hlenB := splB_len s
  have hb0 : Below w.heap.size w (w.alloc (.cells #[.string ⟨#[]⟩, .int .i64 0, .int .i64 0, .int .i64 0] 25)) := (Below.refl _ _).alloc (Nat.le_refl _) _
  have hr0 : (w.alloc (.cells #[.string ⟨#[]⟩, .int .i64 0, .int .i64 0, .int .i64 0] 25)).heap[w.heap.size]? = some (.cells #[.string ⟨#[]⟩, .int .i64 0, .int .i64 0, .int .i64 0] 25 (0, 0)) := by rw [heapq_alloc, if_pos rfl]
  have hz0 : w.heap.size < (w.alloc (.cells #[.string ⟨#[]⟩, .int .i64 0, .int .i64 0, .int .i64 0] 25)).heap.size := by simp
  by_cases h4 : (spl s.data.toList).length ≠ 4
  · have HR : Hid (parF s.data.toList = none) := parF_len h4
    have hn : (((splB s).length : Nat) : Int) ≠ 4 := by rw [hspB, List.length_map]; omega
    have hn2 : ((((splB s).length : Nat) : Int) != 4) = true := bne_iff_ne.2 hn
    generalize parF s.data.toList = R at *
    generalize (splB s).length = n at *
    clear h4 hpart hspB
    go_enter Tryz.func12, Tryz.ntmps12
    go_upto_region 1 with (fail)
    generalize (w.alloc (.cells #[.string ⟨#[]⟩, .int .i64 0, .int .i64 0, .int .i64 0] 25)) = wa at *
    generalize hxx : w.heap.size = x at *
    have HX := Lib.hid hxx
    clear hxx
    replace CC := CC wa
    go_upto_region 2 with (go_at_call 50; refine CC.mono ?_; rintro e w1 ⟨A, c, rfl, hnc, hrd, hb1⟩)
    obtain ⟨t0, t1, t2, t3, q0, q1, q2, q3⟩ := res4 ((hb1.block x hz0).trans hr0)
    have HB1 : Hid (Below x w w1) := hb0.trans (hb1.mono (by omega))
    clear CC hb0 hr0 hz0 hb1 hrd hn
    go_wp2
    refine bodyPost_ret (v := fdP R) (by simp [results, Tryz.results12, go_sem, HR.out, fdP, zeroFd, t0, t1, t2, t3]) rfl ⟨rfl, ?_⟩
    rw [HX.out]
    exact ((((HB1.out.setCell (by simp) _).setCell (by simp) _).setCell (by simp) _).setCell (by simp) _)
  have h4' : (spl s.data.toList).length = 4 := by omega
  obtain ⟨a, lx, ly, lz, hsp⟩ : ∃ a x y z, spl s.data.toList = [a, x, y, z] := by
    match hq : spl s.data.toList, h4' with
    | [a, x, y, z], _ => exact ⟨a, x, y, z, rfl⟩
  rw [hsp] at hspB
  simp only [List.map_cons, List.map_nil] at hspB
  rw [hspB] at CC hpart
  simp only [List.length_cons, List.length_nil, Nat.zero_add, Nat.reduceAdd] at CC
  clear h4 h4'
  have hH := hasT_four a lx ly lz
  cases hE : (decide (a = []) || decide (lx = []) || decide (ly = []) || decide (lz = [])) with
  | true =>
    have HR : Hid (parF s.data.toList = none) := parF_empty hsp hE
    rw [hE] at hH
    generalize parF s.data.toList = R at *
    clear hspB hpart hsp
    go_enter Tryz.func12, Tryz.ntmps12
    go_upto_region 1 with (fail)
    generalize (w.alloc (.cells #[.string ⟨#[]⟩, .int .i64 0, .int .i64 0, .int .i64 0] 25)) = wa at *
    generalize hxx : w.heap.size = x at *
    have HX := Lib.hid hxx
    clear hxx
    replace CC := CC wa
    go_upto_region 2 with (go_at_call 50; refine CC.mono ?_; rintro e w1 ⟨A, c, rfl, hnc, hrd, hb1⟩)
    have HT := HasText_any A 4 c _ _ ⟨#[]⟩ w1 (by omega) rfl hrd
    rw [hH] at HT
    obtain ⟨t0, t1, t2, t3, q0, q1, q2, q3⟩ := res4 ((hb1.block x hz0).trans hr0)
    have HB1 : Hid (Below x w w1) := hb0.trans (hb1.mono (by omega))
    clear CC hb0 hr0 hz0 hb1 hrd hH hE
    go_wp2_with (go_at_call 54; refine HT.mono ?_; rintro e w' ⟨rfl, rfl⟩)
    refine bodyPost_ret (v := fdP R) (by simp [results, Tryz.results12, go_sem, HR.out, fdP, zeroFd, t0, t1, t2, t3]) rfl ⟨rfl, ?_⟩
    rw [HX.out]
    exact ((((HB1.out.setCell (by simp) _).setCell (by simp) _).setCell (by simp) _).setCell (by simp) _)
  | false =>
    have ha : a ≠ [] := by
      intro e
      rw [e] at hE
      simp at hE
    rw [hE] at hH
    have hN1 := parF_no1 hsp ha
    have hN2 := parF_no2 hsp ha
    have hN3 := parF_no3 hsp ha
    have hY := fun d b o h1 h2 h3 => parF_yes hsp ha (d := d) (b := b) (o := o) h1 h2 h3
    generalize parF s.data.toList = R at *
    have HN1 := Lib.hid hN1
    have HN2 := Lib.hid hN2
    have HN3 := Lib.hid hN3
    have HY := Lib.hid hY
    have hsa : (ba a).size ≤ 1000000000 := by have := hpart (ba a) (by simp); omega
    have FE := fun d b o W => refFindingErr_any (ba a) d b o hsa W
    have N1 : ∀ W, Calls Tryz.prog 53 #[.string (ba lx), .int .i64 ((9 : Nat) : Int)] W fun e w' => e = .returned (numP lx 9) ∧ W = w' := fun W => by
      have := Number_any (ba lx) 9 (by omega) (by have := hpart (ba lx) (by simp); omega) W
      rw [ba_data] at this
      exact this
    have N2 : ∀ W, Calls Tryz.prog 53 #[.string (ba ly), .int .i64 ((9 : Nat) : Int)] W fun e w' => e = .returned (numP ly 9) ∧ W = w' := fun W => by
      have := Number_any (ba ly) 9 (by omega) (by have := hpart (ba ly) (by simp); omega) W
      rw [ba_data] at this
      exact this
    have N3 : ∀ W, Calls Tryz.prog 53 #[.string (ba lz), .int .i64 ((9 : Nat) : Int)] W fun e w' => e = .returned (numP lz 9) ∧ W = w' := fun W => by
      have := Number_any (ba lz) 9 (by omega) (by have := hpart (ba lz) (by simp); omega) W
      rw [ba_data] at this
      exact this
    have HFP : Hid (∀ d b o, fdP (some (a, d, b, o)) = if fdE (ba a, d, b, o) = 0 then .tuple #[.agg #[.string (ba a), .int .i64 d, .int .i64 b, .int .i64 o], .int .i64 0] else zeroFd (fdE (ba a, d, b, o))) := fun _ _ _ => rfl
    clear hN1 hN2 hN3 hY hspB hpart hsp hsa hs hlenB hE ha
    generalize hba : ba a = na at *
    generalize ba lx = nx at *
    generalize ba ly = ny at *
    generalize ba lz = nz at *
    go_enter Tryz.func12, Tryz.ntmps12
    go_upto_region 1 with (fail)
    generalize (w.alloc (.cells #[.string ⟨#[]⟩, .int .i64 0, .int .i64 0, .int .i64 0] 25)) = wa at *
    generalize hxx : w.heap.size = x at *
    have HX := Lib.hid hxx
    clear hxx
    replace CC := CC wa
    go_upto_region 2 with (go_at_call 50; refine CC.mono ?_; rintro e w1 ⟨A, c, rfl, hnc, hrd, hb1⟩)
    have HT := HasText_any A 4 c _ _ ⟨#[]⟩ w1 (by omega) rfl hrd
    rw [hH] at HT
    obtain ⟨b, off, rfl, hbB, hc0⟩ := hrd.at_ (k := 0) (u := .string na) rfl
    obtain ⟨b1, off1, hA1, _, hc1⟩ := hrd.at_ (k := 1) (u := .string nx) rfl
    obtain ⟨b2, off2, hA2, _, hc2⟩ := hrd.at_ (k := 2) (u := .string ny) rfl
    obtain ⟨b3, off3, hA3, _, hc3⟩ := hrd.at_ (k := 3) (u := .string nz) rfl
    simp only [Option.some.injEq, Addr.mk.injEq, and_true] at hA1 hA2 hA3
    obtain ⟨rfl, rfl⟩ := hA1
    obtain ⟨rfl, rfl⟩ := hA2
    obtain ⟨rfl, rfl⟩ := hA3
    rw [Nat.add_zero] at hc0
    have hr1 := (hb1.block x hz0).trans hr0
    have hx1 : x < w1.heap.size := Nat.lt_of_lt_of_le hz0 hb1.size
    have HB1 : Hid (Below x w w1) := hb0.trans (hb1.mono (by omega))
    clear CC hb0 hr0 hz0 hb1 hrd hH
    go_upto_region 5 with (go_at_call 54; refine HT.mono ?_; rintro e w' ⟨rfl, rfl⟩)
    have hy1 : (w1.alloc (.cells #[.int .i64 0, .int .i64 0, .int .i64 0] 118)).heap[w1.heap.size]? = some (.cells #[.int .i64 0, .int .i64 0, .int .i64 0] 118 (0, 0)) := by rw [heapq_alloc, if_pos rfl]
    have hby1 : Below w1.heap.size w1 (w1.alloc (.cells #[.int .i64 0, .int .i64 0, .int .i64 0] 118)) := (Below.refl _ _).alloc (Nat.le_refl _) _
    have hyz : w1.heap.size < (w1.alloc (.cells #[.int .i64 0, .int .i64 0, .int .i64 0] 118)).heap.size := by simp
    generalize (w1.alloc (.cells #[.int .i64 0, .int .i64 0, .int .i64 0] 118)) = w2 at *
    generalize hY0 : w1.heap.size = Y at *
    clear hY0 HT
    go_wp2_with fail
    go_loopw [6, 7, 8] (fun u _ _ wr => FdRel w1 Y 118 [] lx ly lz u wr) (fun u _ _ _ => 3 - (intOf u).toNat)
    case atStart => exact ⟨0, 0, 0, 0, rfl, .inl ⟨rfl, rfl, rfl, rfl⟩, hy1, hby1, hyz⟩
    case round =>
      obtain ⟨k, v1, v2, v3, rfl, hst, hrow0, hb, hYs⟩ := hrel
      have hrow : wr.heap[Y]? = some (.cells #[.int .i64 v1, .int .i64 v2, .int .i64 v3] 118 (0, 0)) := hrow0
      clear hrow0
      have HB := Lib.hid hb
      have hxr := (hb.block x hx1).trans hr1
      obtain ⟨u0, u1, u2, p0, p1, p2⟩ := res3 hrow
      have c0 := keptB hb (show b < Y from hbB) hc0
      have c1 := keptB hb (show b < Y from hbB) hc1
      have c2 := keptB hb (show b < Y from hbB) hc2
      have c3 := keptB hb (show b < Y from hbB) hc3
      rcases hst with ⟨rfl, rfl, rfl, rfl⟩ | ⟨rfl, g1, rfl, rfl⟩ | ⟨rfl, g1, g2, rfl⟩ | ⟨rfl, g1, g2, g3⟩
      · have NK := N1 wr
        clear N1 N2 N3 hb FE
        cases hN : numL lx 9 with
        | none =>
          have HR : Hid (R = none) := HN1.out hN
          rw [numP_none hN] at NK
          obtain ⟨t0, t1, t2, t3, q0, q1, q2, q3⟩ := res4 hxr
          have HB6 : Hid (Below x w wr) := HB1.out.trans (HB.out.mono (by omega))
          clear hN hrow hxr
          go_wp2_with (go_at_call 53; refine NK.mono ?_; rintro e w' ⟨rfl, rfl⟩)
          refine bodyPost_ret (v := fdP R) (by simp [results, Tryz.results12, go_sem, HR.out, fdP, zeroFd, t0, t1, t2, t3]) rfl ⟨rfl, ?_⟩
          rw [HX.out]
          exact ((((HB6.out.setCell (by simp) _).setCell (by simp) _).setCell (by simp) _).setCell (by simp) _)
        | some v =>
          rw [numP_some hN] at NK
          have HROW : Hid ((wr.setCell ⟨Y, 0, none⟩ (.int .i64 v)).heap[Y]? = some (.cells #[.int .i64 v, .int .i64 0, .int .i64 0] 118 (0, 0))) := by
            rw [Hid, heapq_set, if_pos rfl, hrow]
            rfl
          have HST : Hid (FdSt lx ly lz 1 v 0 0) := .inr (.inl ⟨rfl, hN, rfl, rfl⟩)
          have HB6 : Hid (Below Y w1 (wr.setCell ⟨Y, 0, none⟩ (.int .i64 v))) := HB.out.setCell (Nat.le_refl Y) _
          clear hN hrow hxr
          go_wp2_with (go_at_call 53; refine NK.mono ?_; rintro e w' ⟨rfl, rfl⟩)
          go_roundw
          case rel => exact ⟨1, v, 0, 0, rfl, HST.out, HROW.out, HB6.out, by simp; omega⟩
          case measure => simp [intOf]
      · have NK := N2 wr
        clear N1 N2 N3 hb FE
        cases hN : numL ly 9 with
        | none =>
          have HR : Hid (R = none) := HN2.out hN
          rw [numP_none hN] at NK
          obtain ⟨t0, t1, t2, t3, q0, q1, q2, q3⟩ := res4 hxr
          have HB6 : Hid (Below x w wr) := HB1.out.trans (HB.out.mono (by omega))
          clear hN hrow hxr
          go_wp2_with (go_at_call 53; refine NK.mono ?_; rintro e w' ⟨rfl, rfl⟩)
          refine bodyPost_ret (v := fdP R) (by simp [results, Tryz.results12, go_sem, HR.out, fdP, zeroFd, t0, t1, t2, t3]) rfl ⟨rfl, ?_⟩
          rw [HX.out]
          exact ((((HB6.out.setCell (by simp) _).setCell (by simp) _).setCell (by simp) _).setCell (by simp) _)
        | some v =>
          rw [numP_some hN] at NK
          have HROW : Hid ((wr.setCell ⟨Y, 1, none⟩ (.int .i64 v)).heap[Y]? = some (.cells #[.int .i64 v1, .int .i64 v, .int .i64 0] 118 (0, 0))) := by
            rw [Hid, heapq_set, if_pos rfl, hrow]
            rfl
          have HST : Hid (FdSt lx ly lz 2 v1 v 0) := .inr (.inr (.inl ⟨rfl, g1, hN, rfl⟩))
          have HB6 : Hid (Below Y w1 (wr.setCell ⟨Y, 1, none⟩ (.int .i64 v))) := HB.out.setCell (Nat.le_refl Y) _
          clear hN hrow hxr
          go_wp2_with (go_at_call 53; refine NK.mono ?_; rintro e w' ⟨rfl, rfl⟩)
          go_roundw
          case rel => exact ⟨2, v1, v, 0, rfl, HST.out, HROW.out, HB6.out, by simp; omega⟩
          case measure => simp [intOf]
      · have NK := N3 wr
        clear N1 N2 N3 hb FE
        cases hN : numL lz 9 with
        | none =>
          have HR : Hid (R = none) := HN3.out hN
          rw [numP_none hN] at NK
          obtain ⟨t0, t1, t2, t3, q0, q1, q2, q3⟩ := res4 hxr
          have HB6 : Hid (Below x w wr) := HB1.out.trans (HB.out.mono (by omega))
          clear hN hrow hxr
          go_wp2_with (go_at_call 53; refine NK.mono ?_; rintro e w' ⟨rfl, rfl⟩)
          refine bodyPost_ret (v := fdP R) (by simp [results, Tryz.results12, go_sem, HR.out, fdP, zeroFd, t0, t1, t2, t3]) rfl ⟨rfl, ?_⟩
          rw [HX.out]
          exact ((((HB6.out.setCell (by simp) _).setCell (by simp) _).setCell (by simp) _).setCell (by simp) _)
        | some v =>
          rw [numP_some hN] at NK
          have HROW : Hid ((wr.setCell ⟨Y, 2, none⟩ (.int .i64 v)).heap[Y]? = some (.cells #[.int .i64 v1, .int .i64 v2, .int .i64 v] 118 (0, 0))) := by
            rw [Hid, heapq_set, if_pos rfl, hrow]
            rfl
          have HST : Hid (FdSt lx ly lz 3 v1 v2 v) := .inr (.inr (.inr ⟨rfl, g1, g2, hN⟩))
          have HB6 : Hid (Below Y w1 (wr.setCell ⟨Y, 2, none⟩ (.int .i64 v))) := HB.out.setCell (Nat.le_refl Y) _
          clear hN hrow hxr
          go_wp2_with (go_at_call 53; refine NK.mono ?_; rintro e w' ⟨rfl, rfl⟩)
          go_roundw
          case rel => exact ⟨3, v1, v2, v, rfl, HST.out, HROW.out, HB6.out, by simp; omega⟩
          case measure => simp [intOf]
      · have HR : Hid (R = some (a, v1, v2, v3)) := HY.out _ _ _ g1 g2 g3
        have FE4 := fun W => FE v1 v2 v3 W
        have HV := Lib.hid (HFP.out v1 v2 v3)
        generalize fdE (na, v1, v2, v3) = E at *
        clear hb FE N1 N2 N3 hc0 hc1 hc2 hc3 c1 c2 c3
        have x0 := fun y : Xt wr => y.cell c0
        have x1 := fun y : Xt wr => y.cell u0
        have x2 := fun y : Xt wr => y.cell u1
        have x3 := fun y : Xt wr => y.cell u2
        go_upto_region 12 with (fail)
        refine wp_region_eager [11] (fun w' => ∃ y : Xt wr, w' = y.1) (by kernel_rfl) ⟨⟨wr.drew, (Below.refl _ _).drew⟩, rfl⟩ ?_
        refine wpE_reads5 [0, 1, 2, 3, 4, 5, 6, 7, 8, 9] 2 rfl (by kernel_rfl) ?_
        simp only [opsAt_nil, opsAt_cons, consOpt_some, List.getElem?_toArray, List.getElem?_cons_zero, List.getElem?_cons_succ]
        repeat (go_big_quiet_step (fail))
        refine wpQuiet_nil ?_
        show wpE _ _ _ _ _ _ _ _ _ wr.drew
        have hbd : Below wr.heap.size wr wr.drew := (Below.refl _ _).drew
        generalize wr.drew = wd at *
        have hb5 : Below wr.heap.size wr (wd.alloc (.cells #[.string ⟨#[]⟩, .int .i64 0, .int .i64 0, .int .i64 0] 25)) := hbd.alloc hbd.size _
        have hk5 : (wd.alloc (.cells #[.string ⟨#[]⟩, .int .i64 0, .int .i64 0, .int .i64 0] 25)).heap[wd.heap.size]? = some (.cells #[.string ⟨#[]⟩, .int .i64 0, .int .i64 0, .int .i64 0] 25 (0, 0)) := by rw [heapq_alloc, if_pos rfl]
        have hwd := hbd.size
        refine wpE_one (i := 10) rfl (by kernel_rfl) rfl ?_
        unfold wpMid
        simp only [opsAt_nil, opsAt_cons, consOpt_some, List.getElem?_toArray, List.getElem?_cons_zero, List.getElem?_cons_succ]
        go_wp2
        generalize (wd.alloc (.cells #[.string ⟨#[]⟩, .int .i64 0, .int .i64 0, .int .i64 0] 25)) = w5 at *
        refine onlyNormal_mk ⟨⟨⟨_, hb5⟩, rfl⟩, ?_⟩
        generalize wd.heap.size = z at *
        refine wpE_tail rfl (by kernel_rfl) ?_
        simp only [opsAt_nil, opsAt_cons, consOpt_some, List.getElem?_toArray, List.getElem?_cons_zero, List.getElem?_cons_succ]
        obtain ⟨s0, s1, s2, s3, f0, f1, f2, f3⟩ := res4 hk5
        have hk6 : ((((w5.setCell ⟨z, 0, none⟩ (.string na)).setCell ⟨z, 1, none⟩ (.int .i64 v1)).setCell ⟨z, 2, none⟩ (.int .i64 v2)).setCell ⟨z, 3, none⟩ (.int .i64 v3)).heap[z]? = some (.cells #[.string na, .int .i64 v1, .int .i64 v2, .int .i64 v3] 25 (0, 0)) := by
          rw [heapq_set, if_pos rfl, heapq_set, if_pos rfl, heapq_set, if_pos rfl, heapq_set, if_pos rfl, hk5]
          simp [objSet_cells]
        have hb6 : Below wr.heap.size wr ((((w5.setCell ⟨z, 0, none⟩ (.string na)).setCell ⟨z, 1, none⟩ (.int .i64 v1)).setCell ⟨z, 2, none⟩ (.int .i64 v2)).setCell ⟨z, 3, none⟩ (.int .i64 v3)) := (((hb5.setCell (by simpa using hwd) _).setCell (by simpa using hwd) _).setCell (by simpa using hwd) _).setCell (by simpa using hwd) _
        clear x0 x1 x2 x3
        go_wp2
        refine onlyNormal_mk ?_
        generalize ((((w5.setCell ⟨z, 0, none⟩ (.string na)).setCell ⟨z, 1, none⟩ (.int .i64 v1)).setCell ⟨z, 2, none⟩ (.int .i64 v2)).setCell ⟨z, 3, none⟩ (.int .i64 v3)) = w6 at *
        clear s0 s1 s2 s3 f0 f1 f2 f3 hb5 hk5
        obtain ⟨s0, s1, s2, s3, f0, f1, f2, f3⟩ := res4 hk6
        go_upto_region 14 with (go_at_call 16; refine (FE4 _).mono ?_; rintro e w7 ⟨rfl, hb7⟩)
        have hxs := hb6.size
        obtain ⟨t0, t1, t2, t3, q0, q1, q2, q3⟩ := res4 ((hb7.block x (by omega)).trans ((hb6.block x (by omega)).trans hxr))
        replace s0 := kept hb7 s0
        replace s1 := kept hb7 s1
        replace s2 := kept hb7 s2
        replace s3 := kept hb7 s3
        have hne : x ≠ z := by omega
        have hne2 : z ≠ x := by omega
        have HB7 : Hid (Below x w w7) := HB1.out.trans ((HB.out.mono (by omega)).trans ((hb6.mono (by omega)).trans (hb7.mono (by omega))))
        clear hb6 hb7 hk6 hxr FE4 f0 f1 f2 f3 u0 u1 u2 p0 p1 p2 c0 hrow
        by_cases hE : E = 0
        · have HVE : Hid (fdP R = .tuple #[.agg #[.string na, .int .i64 v1, .int .i64 v2, .int .i64 v3], .int .i64 0]) := by rw [Hid, HR.out, HV.out, if_pos hE]
          clear HV HR
          subst hE
          go_wp2
          refine bodyPost_ret (v := fdP R) (by simp [results, Tryz.results12, go_sem, HVE.out, t0, t1, t2, t3]) rfl ⟨rfl, ?_⟩
          rw [HX.out]
          exact ((((HB7.out.setCell (by simp) _).setCell (by simp) _).setCell (by simp) _).setCell (by simp) _)
        · have HVE : Hid (fdP R = zeroFd E) := by rw [Hid, HR.out, HV.out, if_neg hE]
          have hE1 : (E != 0) = true := bne_iff_ne.2 hE
          have hE2 : (E == 0) = false := beq_eq_false_iff_ne.2 hE
          clear HV HR
          go_wp2
          refine bodyPost_ret (v := fdP R) (by simp [results, Tryz.results12, go_sem, HVE.out, zeroFd, t0, t1, t2, t3]) rfl ⟨rfl, ?_⟩
          rw [HX.out]
          exact ((((HB7.out.setCell (by simp) _).setCell (by simp) _).setCell (by simp) _).setCell (by simp) _)
end Go.Proofs.YtmcjnfghlpnghaaGreatDoor

/- The law of texts: the walk. -/
namespace Go.Proofs.YtmcjnfghlpnghaaGreatDoor
open Go.RowKit

theorem eqz_int (d : Nat) (x : Int) (W : World) : Sem.run Tryz.prog (Op.equalIn (d + 1) 3 (.int .i64 x) (.int .i64 x)) W = .ok true W := by
  simp [Op.equalIn, run_underlying Tryz.underlying3]
theorem beq_self_bytes (x : ByteArray) : (x == x) = true := by
  show (x.data == x.data) = true
  exact beq_self_eq_true _
theorem eqz_str (d : Nat) (x : ByteArray) (W : World) : Sem.run Tryz.prog (Op.equalIn (d + 1) 9 (.string x) (.string x)) W = .ok true W := by
  simp [Op.equalIn, run_underlying Tryz.underlying9]
  exact beq_self_bytes x
theorem eq3_gen (d : Nat) (a b c : Int) (W : World) : Sem.run Tryz.prog (Op.equalIn (d + 1 + 1) 23 (.agg #[.int .i64 a, .int .i64 b, .int .i64 c]) (.agg #[.int .i64 a, .int .i64 b, .int .i64 c])) W = .ok true W := by
  have h := eqz_int d
  have p0 : ∀ W, Sem.run Tryz.prog (part 3 #[Value.int IntKind.i64 a, Value.int IntKind.i64 b, Value.int IntKind.i64 c] 0) W = .ok (.int .i64 a) W := fun W => by kernel_rfl
  have p1 : ∀ W, Sem.run Tryz.prog (part 3 #[Value.int IntKind.i64 a, Value.int IntKind.i64 b, Value.int IntKind.i64 c] 1) W = .ok (.int .i64 b) W := fun W => by kernel_rfl
  have p2 : ∀ W, Sem.run Tryz.prog (part 3 #[Value.int IntKind.i64 a, Value.int IntKind.i64 b, Value.int IntKind.i64 c] 2) W = .ok (.int .i64 c) W := fun W => by kernel_rfl
  rw [Op.equalIn]
  simp [run_underlying Tryz.underlying23, h, p0, p1, p2, Result.andThen]
theorem run_eqz3 (a b c : Int) (W : World) : Sem.run Tryz.prog (Op.equalIn 10000 23 (.agg #[.int .i64 a, .int .i64 b, .int .i64 c]) (.agg #[.int .i64 a, .int .i64 b, .int .i64 c])) W = .ok true W := eq3_gen 9998 a b c W
theorem eq4_gen (d : Nat) (s : ByteArray) (a b c : Int) (W : World) : Sem.run Tryz.prog (Op.equalIn (d + 1 + 1) 25 (.agg #[.string s, .int .i64 a, .int .i64 b, .int .i64 c]) (.agg #[.string s, .int .i64 a, .int .i64 b, .int .i64 c])) W = .ok true W := by
  have h := eqz_int d
  have h' := eqz_str d
  have p0 : ∀ W, Sem.run Tryz.prog (part 9 #[Value.string s, Value.int IntKind.i64 a, Value.int IntKind.i64 b, Value.int IntKind.i64 c] 0) W = .ok (.string s) W := fun W => by kernel_rfl
  have p1 : ∀ W, Sem.run Tryz.prog (part 3 #[Value.string s, Value.int IntKind.i64 a, Value.int IntKind.i64 b, Value.int IntKind.i64 c] 1) W = .ok (.int .i64 a) W := fun W => by kernel_rfl
  have p2 : ∀ W, Sem.run Tryz.prog (part 3 #[Value.string s, Value.int IntKind.i64 a, Value.int IntKind.i64 b, Value.int IntKind.i64 c] 2) W = .ok (.int .i64 b) W := fun W => by kernel_rfl
  have p3 : ∀ W, Sem.run Tryz.prog (part 3 #[Value.string s, Value.int IntKind.i64 a, Value.int IntKind.i64 b, Value.int IntKind.i64 c] 3) W = .ok (.int .i64 c) W := fun W => by kernel_rfl
  rw [Op.equalIn]
  simp [run_underlying Tryz.underlying25, h, h', p0, p1, p2, p3, Result.andThen]
theorem run_eqz4 (s : ByteArray) (a b c : Int) (W : World) : Sem.run Tryz.prog (Op.equalIn 10000 25 (.agg #[.string s, .int .i64 a, .int .i64 b, .int .i64 c]) (.agg #[.string s, .int .i64 a, .int .i64 b, .int .i64 c])) W = .ok true W := eq4_gen 9998 s a b c W

theorem evP_some {r : Option (Int × Int × Int)} {x : Int × Int × Int} (h : r = some x) : evP r = .tuple #[.agg #[.int .i64 x.1, .int .i64 x.2.1, .int .i64 x.2.2], .int .i64 0] := by rw [h, evP]
/-- what ParseEvent returns, in its parts -/
theorem evP_form (r : Option (Int × Int × Int)) : ∃ a b c E : Int, evP r = .tuple #[.agg #[.int .i64 a, .int .i64 b, .int .i64 c], .int .i64 E] := by
  cases r with
  | none => exact ⟨_, _, _, _, rfl⟩
  | some x => exact ⟨_, _, _, _, rfl⟩
theorem fdP_form (r : Option (List UInt8 × Int × Int × Int)) : ∃ (s : ByteArray) (a b c E : Int), fdP r = .tuple #[.agg #[.string s, .int .i64 a, .int .i64 b, .int .i64 c], .int .i64 E] := by
  cases r with
  | none => exact ⟨_, _, _, _, _, rfl⟩
  | some x =>
    unfold fdP
    split
    · rename_i h; cases h
    · split
      · exact ⟨_, _, _, _, _, rfl⟩
      · exact ⟨_, _, _, _, _, rfl⟩
theorem firstE3_zero {a b c : Int} (h : firstE [a, b, c] = 0) : a = 0 ∧ b = 0 ∧ c = 0 := by
  by_cases ha : a = 0
  · by_cases hb : b = 0
    · by_cases hc : c = 0
      · exact ⟨ha, hb, hc⟩
      · simp [firstE, ha, hb, hc] at h
    · simp [firstE, ha, hb] at h
  · simp [firstE, ha] at h
theorem ev_back (k pl dr : Int) (h : evErrM 6 k pl dr = 0) : parE (fmtE k pl dr) = some (k, pl, dr) := by
  unfold evErrM at h
  split at h
  case isFalse => exact absurd h (by decide)
  case isTrue hk =>
    unfold withinB at hk
    simp only [Bool.and_eq_true, decide_eq_true_eq] at hk
    unfold evE at h
    obtain ⟨h1, h2, h3⟩ := firstE3_zero h
    replace h1 := (unlessE_zero (by decide)).1 h1
    replace h2 := (unlessE_zero (by decide)).1 h2
    replace h3 := (unlessE_zero (by decide)).1 h3
    simp only [usesPB, usesDB, isPlaceB, withinB, Bool.and_eq_true, Bool.or_eq_true, decide_eq_true_eq, beq_iff_eq, Bool.not_eq_true', decide_eq_false_iff_not] at h1 h2 h3
    refine parE_fmt k pl dr hk.1 hk.2 ?_ ?_ ?_ ?_ ?_ ?_
    · intro e; rcases h1.1 with h | h
      · exact absurd h e
      · exact h
    · intro e; rcases h1.2 with h | h
      · exact absurd h e
      · exact h
    all_goals omega
theorem nameGo_blank : ∀ (l : List UInt8) (k : Nat), nameGo k l = true → (32 : UInt8) ∉ l
  | [], _, _ => by simp
  | c :: l, k, h => by
    rw [nameGo, Bool.and_eq_true] at h
    intro hm
    rcases List.mem_cons.1 hm with e | e
    · rw [← e] at h
      have h1 := h.1
      have e32 : (32 : UInt8).toNat = 32 := rfl
      rw [e32] at h1
      simp [okN] at h1
    · exact nameGo_blank l (k + 1) h.2 e
theorem name_blank {s : ByteArray} (h : nameB s = true) : s.data.toList ≠ [] ∧ (32 : UInt8) ∉ s.data.toList := by
  unfold nameB at h
  simp only [Bool.and_eq_true, decide_eq_true_eq] at h
  refine ⟨fun e => ?_, nameGo_blank _ 0 h.2⟩
  have := h.1.1
  rw [Lib.size_eq, e] at this
  simp at this
theorem fd_back (s : ByteArray) (d b o : Int) (h : fdE (s, d, b, o) = 0) : fdP (parF (fmtF s.data.toList d b o)) = .tuple #[.agg #[.string s, .int .i64 d, .int .i64 b, .int .i64 o], .int .i64 0] := by
  have h0 := h
  unfold fdE at h
  split at h
  case isFalse => exact absurd h (by decide)
  case isTrue hn =>
    split at h
    case isFalse => exact absurd h (by decide)
    case isTrue hr =>
      unfold rightB withinB at hr
      simp only [Bool.and_eq_true, decide_eq_true_eq] at hr
      obtain ⟨n1, n2⟩ := name_blank hn
      rw [parF_fmt _ _ _ _ n1 n2 (by omega) (by omega) (by omega)]
      simp only [fdP, ba_of]
      rw [if_pos h0]

def EvT (w : World) (a b c E : Int) (e : Ending) (w' : World) : Prop := e = .returned (.tuple #[.agg #[.int .i64 a, .int .i64 b, .int .i64 c], .int .i64 E]) ∧ Below w.heap.size w w'
def FdT (w : World) (n : ByteArray) (a b c E : Int) (e : Ending) (w' : World) : Prop := e = .returned (.tuple #[.agg #[.string n, .int .i64 a, .int .i64 b, .int .i64 c], .int .i64 E]) ∧ Below w.heap.size w w'
set_option maxRecDepth 100000 in
set_option maxHeartbeats 16000000 in
theorem Texts_all (k pl dr : Int) (hpl : I64 pl) (hdr : I64 dr) (nm : ByteArray) (d b o : Int) (hd : I64 d) (hb : I64 b) (ho : I64 o) (s : ByteArray) (w : World) (ht : TxtAt w) :
    Calls Tryz.prog 3 #[.agg #[.int .i64 k, .int .i64 pl, .int .i64 dr], .agg #[.string nm, .int .i64 d, .int .i64 b, .int .i64 o], .string s] w (AwakePost w) := by
  have hb0 : Below w.heap.size w ((w.alloc (.cells #[.int .i64 k, .int .i64 pl, .int .i64 dr] 23)).alloc (.cells #[.string nm, .int .i64 d, .int .i64 b, .int .i64 o] 25)) :=
    ((Below.refl _ _).alloc (Nat.le_refl _) _).alloc (by simp) _
  have k0 : ((w.alloc (.cells #[.int .i64 k, .int .i64 pl, .int .i64 dr] 23)).alloc (.cells #[.string nm, .int .i64 d, .int .i64 b, .int .i64 o] 25)).heap[w.heap.size]? = some (.cells #[.int .i64 k, .int .i64 pl, .int .i64 dr] 23 (0, 0)) := by
    rw [heapq_alloc, if_neg (by simp), heapq_alloc, if_pos rfl]
  have k1 : ((w.alloc (.cells #[.int .i64 k, .int .i64 pl, .int .i64 dr] 23)).alloc (.cells #[.string nm, .int .i64 d, .int .i64 b, .int .i64 o] 25)).heap[w.heap.size + 1]? = some (.cells #[.string nm, .int .i64 d, .int .i64 b, .int .i64 o] 25 (0, 0)) := by
    rw [heapq_alloc, if_pos (by simp)]
  have hsz : ((w.alloc (.cells #[.int .i64 k, .int .i64 pl, .int .i64 dr] 23)).alloc (.cells #[.string nm, .int .i64 d, .int .i64 b, .int .i64 o] 25)).heap.size = w.heap.size + 2 := by simp
  have ht0 := ht.below hb0
  go_enter Tryz.func3, Tryz.ntmps3
  go_upto_region 1 with (fail)
  generalize ((w.alloc (.cells #[.int .i64 k, .int .i64 pl, .int .i64 dr] 23)).alloc (.cells #[.string nm, .int .i64 d, .int .i64 b, .int .i64 o] 25)) = w0 at *
  generalize hxx : w.heap.size = x at *
  have HX := Lib.hid hxx
  clear hxx ht
  go_upto_region 3 with (go_at_call 6; refine (awake_any w0 ht0.kinds).mono ?_; rintro e w1 ⟨rfl, hb1⟩)
  have hs1 := hb1.size
  replace k0 := (hb1.block x (by omega)).trans k0
  replace k1 := (hb1.block (x + 1) (by omega)).trans k1
  have ht1 := ht0.below hb1
  have HB1 : Hid (Below x w w1) := hb0.trans (hb1.mono (by omega))
  have hx1 : x + 2 ≤ w1.heap.size := by omega
  clear hb0 hb1 ht0 hs1 hsz
  obtain ⟨e0, e1, e2, _, _, _⟩ := res3 k0
  obtain ⟨f0, f1, f2, f3, _, _, _, _⟩ := res4 k1
  by_cases h20 : 20 < nm.size
  · have q1 : (20 : Int) < (nm.size : Int) := by omega
    go_wp2
    go_ret
    exact ⟨rfl, by rw [HX.out]; exact HB1.out⟩
  have q1 : ¬ (20 : Int) < (nm.size : Int) := by omega
  by_cases h60 : 60 < s.size
  · have q2 : (60 : Int) < (s.size : Int) := by omega
    go_wp2
    go_ret
    exact ⟨rfl, by rw [HX.out]; exact HB1.out⟩
  have q2 : ¬ (60 : Int) < (s.size : Int) := by omega
  have hns : nm.size ≤ 20 := by omega
  have hss : s.size ≤ 60 := by omega
  have FV := FormatEvent_any k pl dr hpl hdr
  have FF := FormatFinding_any nm d b o (by omega) hd hb ho
  have RV := refFormatEvent_any k pl dr hpl hdr
  have RF := refFormatFinding_any nm d b o (by omega) hd hb ho
  have hUl : (ba (fmtE k pl dr)).size ≤ 1000000 := by
    have := fmtE_len k pl dr hpl hdr
    rw [ba_size]; omega
  have hVl : (ba (fmtF nm.data.toList d b o)).size ≤ 1000000 := by
    have := fmtF_len nm.data.toList d b o hd hb ho
    rw [← Lib.size_eq] at this
    rw [ba_size]; omega
  obtain ⟨a1, b1, c1, E1, hE1⟩ := evP_form (parE s.data.toList)
  obtain ⟨n2, a2, b2, c2, E2, hE2⟩ := fdP_form (parF s.data.toList)
  have P9 : ∀ W, TxtAt W → Calls Tryz.prog 9 #[.string s] W (EvT W a1 b1 c1 E1) := fun W hW => by
    have := ParseEvent_any s (by omega) W hW
    unfold EvTPost at this
    rw [hE1] at this
    exact this
  have P11 : ∀ W, Calls Tryz.prog 11 #[.string s] W (EvT W a1 b1 c1 E1) := fun W => by
    have := refParseEvent_any s (by omega) W
    unfold EvTPost at this
    rw [hE1] at this
    exact this
  have P10 : ∀ W, TxtAt W → Calls Tryz.prog 10 #[.string s] W (FdT W n2 a2 b2 c2 E2) := fun W hW => by
    have := ParseFinding_any s (by omega) W hW
    unfold FdTPost at this
    rw [hE2] at this
    exact this
  have P12 : ∀ W, Calls Tryz.prog 12 #[.string s] W (FdT W n2 a2 b2 c2 E2) := fun W => by
    have := refParseFinding_any s (by omega) W
    unfold FdTPost at this
    rw [hE2] at this
    exact this
  have PE := fun W hW => ParseEvent_any (ba (fmtE k pl dr)) hUl W hW
  have PF := fun W hW => ParseFinding_any (ba (fmtF nm.data.toList d b o)) hVl W hW
  simp only [ba_data] at PE PF
  have EE := fun W => EventErr_any 6 0 0 k pl dr W (by omega) (by omega)
  have FE := fun W => refFindingErr_any nm d b o (by omega) W
  have HEV := Lib.hid (ev_back k pl dr)
  have HFD := Lib.hid (fd_back nm d b o)
  obtain ⟨EV, hEV⟩ : ∃ z, evErrM 6 k pl dr = z := ⟨_, rfl⟩
  obtain ⟨FV2, hFV2⟩ : ∃ z, fdE (nm, d, b, o) = z := ⟨_, rfl⟩
  obtain ⟨RP, hRP⟩ : ∃ z, parE (fmtE k pl dr) = z := ⟨_, rfl⟩
  obtain ⟨RQ, hRQ⟩ : ∃ z, parF (fmtF nm.data.toList d b o) = z := ⟨_, rfl⟩
  rw [hEV, hRP] at HEV
  rw [hFV2, hRQ] at HFD
  rw [hEV] at EE
  rw [hFV2] at FE
  rw [hRP] at PE
  rw [hRQ] at PF
  generalize ba (fmtE k pl dr) = U at *
  generalize ba (fmtF nm.data.toList d b o) = V at *
  clear hE1 hE2 hEV hFV2 hRP hRQ hUl hVl hns hss hd hb ho hpl hdr h20 h60 k0 k1
  have x0 := fun y : Xt w1 => y.cell e0
  have x1 := fun y : Xt w1 => y.cell e1
  have x2 := fun y : Xt w1 => y.cell e2
  have x3 := fun y : Xt w1 => y.cell f0
  have x4 := fun y : Xt w1 => y.cell f1
  have x5 := fun y : Xt w1 => y.cell f2
  have x6 := fun y : Xt w1 => y.cell f3
  have HT1 := Lib.hid ht1
  go_upto_region 5 with (fail)
  refine wp_region_xt (by kernel_rfl) (by kernel_rfl) ?_
  repeat (go_big_quiet_step (first | (go_at_call 7; exact Xt.calls (FV _ (HT1.out.below (xprop _)))) | (go_at_call 8; exact Xt.calls (FF _ (HT1.out.below (xprop _))))))
  refine wpQuiet_nil ?_
  intro u0 hx
  have hbn := Xt.below hx
  have htu0 := ht1.below hbn
  have HBu0 : Hid (Below x w u0) := HB1.out.trans (hbn.mono (by omega))
  have hxu0 : x + 2 ≤ u0.heap.size := Nat.le_trans hx1 hbn.size
  replace e0 := kept hbn e0
  replace e1 := kept hbn e1
  replace e2 := kept hbn e2
  replace f0 := kept hbn f0
  replace f1 := kept hbn f1
  replace f2 := kept hbn f2
  replace f3 := kept hbn f3
  clear hx x0 x1 x2 x3 x4 x5 x6 hbn HT1 ht1 HB1 hx1 FV FF
  go_upto_region 7 with (go_at_call 9; refine (P9 _ htu0).mono ?_; rintro e v1 ⟨rfl, hbv⟩)
  have hbn : Below u0.heap.size u0 (v1.alloc (.cells #[.int .i64 a1, .int .i64 b1, .int .i64 c1] 23)) := hbv.alloc hbv.size _
  have hkn : (v1.alloc (.cells #[.int .i64 a1, .int .i64 b1, .int .i64 c1] 23)).heap[v1.heap.size]? = some (.cells #[.int .i64 a1, .int .i64 b1, .int .i64 c1] 23 (0, 0)) := by rw [heapq_alloc, if_pos rfl]
  have htn := htu0.below hbn
  have HB1 : Hid (Below x w (v1.alloc (.cells #[.int .i64 a1, .int .i64 b1, .int .i64 c1] 23))) := HBu0.out.trans (hbn.mono (by omega))
  have hxn1 : x + 2 ≤ (v1.alloc (.cells #[.int .i64 a1, .int .i64 b1, .int .i64 c1] 23)).heap.size := Nat.le_trans hxu0 hbn.size
  replace e0 := kept hbn e0
  replace e1 := kept hbn e1
  replace e2 := kept hbn e2
  replace f0 := kept hbn f0
  replace f1 := kept hbn f1
  replace f2 := kept hbn f2
  replace f3 := kept hbn f3
  obtain ⟨g0, g1, g2, _, _, _⟩ := res3 hkn
  clear hbn hbv hkn htu0 HBu0 hxu0
  generalize (v1.alloc (.cells #[.int .i64 a1, .int .i64 b1, .int .i64 c1] 23)) = u1 at *
  generalize v1.heap.size = y1 at *
  have htu1 := htn
  have HBu1 := HB1
  have hxu1 := hxn1
  clear htn HB1 hxn1
  go_upto_region 8 with (go_at_call 10; refine (P10 _ htu1).mono ?_; rintro e v2 ⟨rfl, hbv⟩)
  have hbn : Below u1.heap.size u1 (v2.alloc (.cells #[.string n2, .int .i64 a2, .int .i64 b2, .int .i64 c2] 25)) := hbv.alloc hbv.size _
  have hkn : (v2.alloc (.cells #[.string n2, .int .i64 a2, .int .i64 b2, .int .i64 c2] 25)).heap[v2.heap.size]? = some (.cells #[.string n2, .int .i64 a2, .int .i64 b2, .int .i64 c2] 25 (0, 0)) := by rw [heapq_alloc, if_pos rfl]
  have htn := htu1.below hbn
  have HB2 : Hid (Below x w (v2.alloc (.cells #[.string n2, .int .i64 a2, .int .i64 b2, .int .i64 c2] 25))) := HBu1.out.trans (hbn.mono (by omega))
  have hxn2 : x + 2 ≤ (v2.alloc (.cells #[.string n2, .int .i64 a2, .int .i64 b2, .int .i64 c2] 25)).heap.size := Nat.le_trans hxu1 hbn.size
  replace e0 := kept hbn e0
  replace e1 := kept hbn e1
  replace e2 := kept hbn e2
  replace f0 := kept hbn f0
  replace f1 := kept hbn f1
  replace f2 := kept hbn f2
  replace f3 := kept hbn f3
  replace g0 := kept hbn g0
  replace g1 := kept hbn g1
  replace g2 := kept hbn g2
  obtain ⟨h0, h1, h2, h3, _, _, _, _⟩ := res4 hkn
  clear hbn hbv hkn htu1 HBu1 hxu1
  generalize (v2.alloc (.cells #[.string n2, .int .i64 a2, .int .i64 b2, .int .i64 c2] 25)) = u2 at *
  generalize v2.heap.size = y2 at *
  have htu2 := htn
  have HBu2 := HB2
  have hxu2 := hxn2
  clear htn HB2 hxn2
  go_upto_region 9 with (go_at_call 11; refine (P11 _).mono ?_; rintro e v3 ⟨rfl, hbv⟩)
  have hbn : Below u2.heap.size u2 (v3.alloc (.cells #[.int .i64 a1, .int .i64 b1, .int .i64 c1] 23)) := hbv.alloc hbv.size _
  have hkn : (v3.alloc (.cells #[.int .i64 a1, .int .i64 b1, .int .i64 c1] 23)).heap[v3.heap.size]? = some (.cells #[.int .i64 a1, .int .i64 b1, .int .i64 c1] 23 (0, 0)) := by rw [heapq_alloc, if_pos rfl]
  have htn := htu2.below hbn
  have HB3 : Hid (Below x w (v3.alloc (.cells #[.int .i64 a1, .int .i64 b1, .int .i64 c1] 23))) := HBu2.out.trans (hbn.mono (by omega))
  have hxn3 : x + 2 ≤ (v3.alloc (.cells #[.int .i64 a1, .int .i64 b1, .int .i64 c1] 23)).heap.size := Nat.le_trans hxu2 hbn.size
  replace e0 := kept hbn e0
  replace e1 := kept hbn e1
  replace e2 := kept hbn e2
  replace f0 := kept hbn f0
  replace f1 := kept hbn f1
  replace f2 := kept hbn f2
  replace f3 := kept hbn f3
  replace g0 := kept hbn g0
  replace g1 := kept hbn g1
  replace g2 := kept hbn g2
  replace h0 := kept hbn h0
  replace h1 := kept hbn h1
  replace h2 := kept hbn h2
  replace h3 := kept hbn h3
  obtain ⟨i0, i1, i2, _, _, _⟩ := res3 hkn
  clear hbn hbv hkn htu2 HBu2 hxu2
  generalize (v3.alloc (.cells #[.int .i64 a1, .int .i64 b1, .int .i64 c1] 23)) = u3 at *
  generalize v3.heap.size = y3 at *
  have htu3 := htn
  have HBu3 := HB3
  have hxu3 := hxn3
  clear htn HB3 hxn3
  go_upto_region 10 with (go_at_call 12; refine (P12 _).mono ?_; rintro e v4 ⟨rfl, hbv⟩)
  have hbn : Below u3.heap.size u3 (v4.alloc (.cells #[.string n2, .int .i64 a2, .int .i64 b2, .int .i64 c2] 25)) := hbv.alloc hbv.size _
  have hkn : (v4.alloc (.cells #[.string n2, .int .i64 a2, .int .i64 b2, .int .i64 c2] 25)).heap[v4.heap.size]? = some (.cells #[.string n2, .int .i64 a2, .int .i64 b2, .int .i64 c2] 25 (0, 0)) := by rw [heapq_alloc, if_pos rfl]
  have htn := htu3.below hbn
  have HB4 : Hid (Below x w (v4.alloc (.cells #[.string n2, .int .i64 a2, .int .i64 b2, .int .i64 c2] 25))) := HBu3.out.trans (hbn.mono (by omega))
  have hxn4 : x + 2 ≤ (v4.alloc (.cells #[.string n2, .int .i64 a2, .int .i64 b2, .int .i64 c2] 25)).heap.size := Nat.le_trans hxu3 hbn.size
  replace e0 := kept hbn e0
  replace e1 := kept hbn e1
  replace e2 := kept hbn e2
  replace f0 := kept hbn f0
  replace f1 := kept hbn f1
  replace f2 := kept hbn f2
  replace f3 := kept hbn f3
  replace g0 := kept hbn g0
  replace g1 := kept hbn g1
  replace g2 := kept hbn g2
  replace h0 := kept hbn h0
  replace h1 := kept hbn h1
  replace h2 := kept hbn h2
  replace h3 := kept hbn h3
  replace i0 := kept hbn i0
  replace i1 := kept hbn i1
  replace i2 := kept hbn i2
  obtain ⟨j0, j1, j2, j3, _, _, _, _⟩ := res4 hkn
  clear hbn hbv hkn htu3 HBu3 hxu3
  generalize (v4.alloc (.cells #[.string n2, .int .i64 a2, .int .i64 b2, .int .i64 c2] 25)) = u4 at *
  generalize v4.heap.size = y4 at *
  have htu4 := htn
  have HBu4 := HB4
  have hxu4 := hxn4
  clear htn HB4 hxn4
  clear P9 P10 P11 P12
  have z1 := run_eqz3 a1 b1 c1
  have z2 := run_eqz4 n2 a2 b2 c2
  have z3 : (U.toList == U.toList) = true := beq_self_eq_true _
  have z4 : (V.toList == V.toList) = true := beq_self_eq_true _
  have z5 : (E1 == E1) = true := beq_self_eq_true _
  have z6 : (E2 == E2) = true := beq_self_eq_true _
  go_wp2_with fail
  refine (RV _).mono ?_
  rintro e u5 ⟨rfl, hb5⟩
  have htu5 := htu4.below hb5
  have HBu5 : Hid (Below x w u5) := HBu4.out.trans (hb5.mono (by omega))
  have hxu5 : x + 2 ≤ u5.heap.size := Nat.le_trans hxu4 hb5.size
  replace e0 := kept hb5 e0
  replace e1 := kept hb5 e1
  replace e2 := kept hb5 e2
  replace f0 := kept hb5 f0
  replace f1 := kept hb5 f1
  replace f2 := kept hb5 f2
  replace f3 := kept hb5 f3
  replace g0 := kept hb5 g0
  replace g1 := kept hb5 g1
  replace g2 := kept hb5 g2
  replace h0 := kept hb5 h0
  replace h1 := kept hb5 h1
  replace h2 := kept hb5 h2
  replace h3 := kept hb5 h3
  replace i0 := kept hb5 i0
  replace i1 := kept hb5 i1
  replace i2 := kept hb5 i2
  replace j0 := kept hb5 j0
  replace j1 := kept hb5 j1
  replace j2 := kept hb5 j2
  replace j3 := kept hb5 j3
  clear hb5 htu4 HBu4 hxu4
  go_wp2_with fail
  refine (RF _).mono ?_
  rintro e u6 ⟨rfl, hb6⟩
  have htu6 := htu5.below hb6
  have HBu6 : Hid (Below x w u6) := HBu5.out.trans (hb6.mono (by omega))
  have hxu6 : x + 2 ≤ u6.heap.size := Nat.le_trans hxu5 hb6.size
  replace e0 := kept hb6 e0
  replace e1 := kept hb6 e1
  replace e2 := kept hb6 e2
  replace f0 := kept hb6 f0
  replace f1 := kept hb6 f1
  replace f2 := kept hb6 f2
  replace f3 := kept hb6 f3
  replace g0 := kept hb6 g0
  replace g1 := kept hb6 g1
  replace g2 := kept hb6 g2
  replace h0 := kept hb6 h0
  replace h1 := kept hb6 h1
  replace h2 := kept hb6 h2
  replace h3 := kept hb6 h3
  replace i0 := kept hb6 i0
  replace i1 := kept hb6 i1
  replace i2 := kept hb6 i2
  replace j0 := kept hb6 j0
  replace j1 := kept hb6 j1
  replace j2 := kept hb6 j2
  replace j3 := kept hb6 j3
  clear hb6 htu5 HBu5 hxu5
  go_upto_region 12 with (fail)
  clear g0 g1 g2 h0 h1 h2 h3 i0 i1 i2 j0 j1 j2 j3
  go_wp2_with fail
  refine (EE _).mono ?_
  rintro e u7 ⟨rfl, hb7⟩
  have htu7 := htu6.below hb7
  have HBu7 : Hid (Below x w u7) := HBu6.out.trans (hb7.mono (by omega))
  have hxu7 : x + 2 ≤ u7.heap.size := Nat.le_trans hxu6 hb7.size
  replace e0 := kept hb7 e0
  replace e1 := kept hb7 e1
  replace e2 := kept hb7 e2
  replace f0 := kept hb7 f0
  replace f1 := kept hb7 f1
  replace f2 := kept hb7 f2
  replace f3 := kept hb7 f3
  clear hb7 htu6 HBu6 hxu6
  by_cases hEV : EV = 0
  · have q3 : (EV == 0) = true := beq_iff_eq.2 hEV
    have hRP := HEV.out hEV
    have P9 : ∀ W, TxtAt W → Calls Tryz.prog 9 #[.string U] W (EvT W k pl dr 0) := fun W hW => by
      have := PE W hW
      unfold EvTPost at this
      rw [hRP] at this
      exact this
    have z7 := run_eqz3 k pl dr
    clear HEV hRP PE
    go_upto_region 14 with (go_at_call 9; refine (P9 _ htu7).mono ?_; rintro e v8 ⟨rfl, hbv⟩)
    have hbn : Below u7.heap.size u7 (v8.alloc (.cells #[.int .i64 k, .int .i64 pl, .int .i64 dr] 23)) := hbv.alloc hbv.size _
    have hkn : (v8.alloc (.cells #[.int .i64 k, .int .i64 pl, .int .i64 dr] 23)).heap[v8.heap.size]? = some (.cells #[.int .i64 k, .int .i64 pl, .int .i64 dr] 23 (0, 0)) := by rw [heapq_alloc, if_pos rfl]
    have htz := htu7.below hbn
    have HBz : Hid (Below x w (v8.alloc (.cells #[.int .i64 k, .int .i64 pl, .int .i64 dr] 23))) := HBu7.out.trans (hbn.mono (by omega))
    have hxz : x + 2 ≤ (v8.alloc (.cells #[.int .i64 k, .int .i64 pl, .int .i64 dr] 23)).heap.size := Nat.le_trans hxu7 hbn.size
    replace e0 := kept hbn e0
    replace e1 := kept hbn e1
    replace e2 := kept hbn e2
    replace f0 := kept hbn f0
    replace f1 := kept hbn f1
    replace f2 := kept hbn f2
    replace f3 := kept hbn f3
    obtain ⟨l0, l1, l2, _, _, _⟩ := res3 hkn
    clear hbn hbv hkn htu7 HBu7 hxu7
    generalize (v8.alloc (.cells #[.int .i64 k, .int .i64 pl, .int .i64 dr] 23)) = uz at *
    generalize v8.heap.size = yz at *
    go_upto_region 16 with (fail)
    clear l0 l1 l2 z7
    go_wp2_with fail
    refine (FE _).mono ?_
    rintro e u9 ⟨rfl, hb9⟩
    have htu9 := htz.below hb9
    have HBu9 : Hid (Below x w u9) := HBz.out.trans (hb9.mono (by omega))
    have hxu9 : x + 2 ≤ u9.heap.size := Nat.le_trans hxz hb9.size
    replace f0 := kept hb9 f0
    replace f1 := kept hb9 f1
    replace f2 := kept hb9 f2
    replace f3 := kept hb9 f3
    clear hb9 htz HBz hxz
    by_cases hFV : FV2 = 0
    · have q4 : (FV2 != 0) = false := by rw [hFV]; rfl
      have hRQ := HFD.out hFV
      have P10 : ∀ W, TxtAt W → Calls Tryz.prog 10 #[.string V] W (FdT W nm d b o 0) := fun W hW => by
        have := PF W hW
        unfold FdTPost at this
        rw [hRQ] at this
        exact this
      have z8 := run_eqz4 nm d b o
      clear HFD hRQ PF
      go_upto_region 19 with (go_at_call 10; refine (P10 _ htu9).mono ?_; rintro e v9 ⟨rfl, hbv⟩)
      have hbn : Below u9.heap.size u9 (v9.alloc (.cells #[.string nm, .int .i64 d, .int .i64 b, .int .i64 o] 25)) := hbv.alloc hbv.size _
      have hkn : (v9.alloc (.cells #[.string nm, .int .i64 d, .int .i64 b, .int .i64 o] 25)).heap[v9.heap.size]? = some (.cells #[.string nm, .int .i64 d, .int .i64 b, .int .i64 o] 25 (0, 0)) := by rw [heapq_alloc, if_pos rfl]
      have HBy : Hid (Below x w (v9.alloc (.cells #[.string nm, .int .i64 d, .int .i64 b, .int .i64 o] 25))) := HBu9.out.trans (hbn.mono (by omega))
      replace f0 := kept hbn f0
      replace f1 := kept hbn f1
      replace f2 := kept hbn f2
      replace f3 := kept hbn f3
      obtain ⟨m0, m1, m2, m3, _, _, _, _⟩ := res4 hkn
      clear hbn hbv hkn htu9 HBu9 hxu9
      generalize (v9.alloc (.cells #[.string nm, .int .i64 d, .int .i64 b, .int .i64 o] 25)) = uy at *
      generalize v9.heap.size = yy at *
      go_wp2
      go_ret
      exact ⟨rfl, by rw [HX.out]; exact HBy.out⟩
    · have q4 : (FV2 != 0) = true := bne_iff_ne.2 hFV
      clear HFD PF
      go_wp2
      go_ret
      exact ⟨rfl, by rw [HX.out]; exact HBu9.out⟩
  · have q3 : (EV == 0) = false := beq_eq_false_iff_ne.2 hEV
    clear HEV PE
    have htz := htu7
    have HBz := HBu7
    have hxz := hxu7
    clear htu7 HBu7 hxu7
    generalize hu : u7 = uz at *
    clear hu
    go_wp2_with fail
    refine (FE _).mono ?_
    rintro e u9 ⟨rfl, hb9⟩
    have htu9 := htz.below hb9
    have HBu9 : Hid (Below x w u9) := HBz.out.trans (hb9.mono (by omega))
    have hxu9 : x + 2 ≤ u9.heap.size := Nat.le_trans hxz hb9.size
    replace f0 := kept hb9 f0
    replace f1 := kept hb9 f1
    replace f2 := kept hb9 f2
    replace f3 := kept hb9 f3
    clear hb9 htz HBz hxz
    by_cases hFV : FV2 = 0
    · have q4 : (FV2 != 0) = false := by rw [hFV]; rfl
      have hRQ := HFD.out hFV
      have P10 : ∀ W, TxtAt W → Calls Tryz.prog 10 #[.string V] W (FdT W nm d b o 0) := fun W hW => by
        have := PF W hW
        unfold FdTPost at this
        rw [hRQ] at this
        exact this
      have z8 := run_eqz4 nm d b o
      clear HFD hRQ PF
      go_upto_region 19 with (go_at_call 10; refine (P10 _ htu9).mono ?_; rintro e v9 ⟨rfl, hbv⟩)
      have hbn : Below u9.heap.size u9 (v9.alloc (.cells #[.string nm, .int .i64 d, .int .i64 b, .int .i64 o] 25)) := hbv.alloc hbv.size _
      have hkn : (v9.alloc (.cells #[.string nm, .int .i64 d, .int .i64 b, .int .i64 o] 25)).heap[v9.heap.size]? = some (.cells #[.string nm, .int .i64 d, .int .i64 b, .int .i64 o] 25 (0, 0)) := by rw [heapq_alloc, if_pos rfl]
      have HBy : Hid (Below x w (v9.alloc (.cells #[.string nm, .int .i64 d, .int .i64 b, .int .i64 o] 25))) := HBu9.out.trans (hbn.mono (by omega))
      replace f0 := kept hbn f0
      replace f1 := kept hbn f1
      replace f2 := kept hbn f2
      replace f3 := kept hbn f3
      obtain ⟨m0, m1, m2, m3, _, _, _, _⟩ := res4 hkn
      clear hbn hbv hkn htu9 HBu9 hxu9
      generalize (v9.alloc (.cells #[.string nm, .int .i64 d, .int .i64 b, .int .i64 o] 25)) = uy at *
      generalize v9.heap.size = yy at *
      go_wp2
      go_ret
      exact ⟨rfl, by rw [HX.out]; exact HBy.out⟩
    · have q4 : (FV2 != 0) = true := bne_iff_ne.2 hFV
      clear HFD PF
      go_wp2
      go_ret
      exact ⟨rfl, by rw [HX.out]; exact HBu9.out⟩
end Go.Proofs.YtmcjnfghlpnghaaGreatDoor
