/- Work: the error of work. -/
import Derived.Test.YtlbgocgocanloaaGreatDoorf5T1
namespace Go.Proofs.YtlbgocgocanloaaGreatDoor
open Go.RowKit
theorem workM_split (W : List Int) (J : List Jb) : workM W J = seqE (firstE [unlessE (decide (0 < W.length)) 10, unlessE (decide (W.length ≤ 5) && decide (J.length ≤ 6)) 8, unlessE (!W.any badHr) 2]) (jbGo W.length J) := by
  unfold workM
  by_cases h1 : 0 < W.length
  · by_cases h2 : W.length ≤ 5 ∧ J.length ≤ 6
    · rw [if_pos h1, if_pos h2]
      cases h3 : W.any badHr <;> simp [firstE, unlessE, seqE, h1, h2]
    · rw [if_pos h1, if_neg h2]
      have : (decide (W.length ≤ 5) && decide (J.length ≤ 6)) = false := by
        rw [Bool.eq_false_iff]
        simpa using h2
      simp [firstE, unlessE, seqE, h1, this]
  · rw [if_neg h1]
    simp [firstE, unlessE, seqE, h1]
theorem jbE_first (nw : Nat) (h f t : Int) : jbE nw (h, f, t) = firstE [unlessE (decide (0 < h) && withinB h 0 1000) 2, unlessE (withinB f 0 ((nw : Int) - 1) && withinB t 0 ((nw : Int) - 1)) 6, unlessE (decide (f ≤ t)) 9] := by
  unfold jbE
  cases h1 : (decide (0 < h) && withinB h 0 1000)
  · simp [firstE, unlessE]
  · cases h2 : (withinB f 0 ((nw : Int) - 1) && withinB t 0 ((nw : Int) - 1))
    · simp [firstE, unlessE]
    · by_cases h3 : f ≤ t <;> simp [firstE, unlessE, h3]
def JobRel (w0 : World) (nw : Nat) (J : List Jb) (nj : Nat) (V : Int) (u : Value) (wr : World) : Prop := ∃ k : Nat, k ≤ nj ∧ u = .int .i64 k ∧ jbGo nw (J.drop k) = V ∧ Below w0.heap.size w0 wr
set_option maxRecDepth 100000 in
set_option maxHeartbeats 16000000 in
theorem workErr_any (w : World) (B : Nat) (Aw Aj : Option Addr) (nw cw nj cj : Nat) (W : List Int) (J : List Jb) (hl : W.length = nw) (hlj : J.length = nj) (hw : Rd w B Aw (intCells W)) (hj : Rd w B Aj (evCells J)) (hB : B ≤ w.heap.size) (hn : nw ≤ 1000000) (hm : nj ≤ 1000000) :
    Calls Tryz.prog 83 #[.agg #[.slice Aw nw cw, .slice Aj nj cj]] w (ErrVal w (workM W J)) := by
  have hb0 : Below w.heap.size w ((w.alloc (.cells #[.slice Aw nw cw, .slice Aj nj cj] 79)).alloc (.cells #[.func (.func 119) #[] #[]] 119)) := ((Below.refl _ _).alloc (Nat.le_refl _) _).alloc (by simp) _
  have k0 : ((w.alloc (.cells #[.slice Aw nw cw, .slice Aj nj cj] 79)).alloc (.cells #[.func (.func 119) #[] #[]] 119)).heap[w.heap.size]? = some (.cells #[.slice Aw nw cw, .slice Aj nj cj] 79 (0, 0)) := by rw [heapq_alloc, if_neg (by simp), heapq_alloc, if_pos rfl]
  have k1 : ((w.alloc (.cells #[.slice Aw nw cw, .slice Aj nj cj] 79)).alloc (.cells #[.func (.func 119) #[] #[]] 119)).heap[w.heap.size + 1]? = some (.cells #[.func (.func 119) #[] #[]] 119 (0, 0)) := by rw [heapq_alloc, if_pos (by simp)]
  have c0 := (cell_of_row _ _ 0 _ _ _ k0).trans (by rfl : _ = some (.slice Aw nw cw))
  have c1 := (cell_of_row _ _ 1 _ _ _ k0).trans (by rfl : _ = some (.slice Aj nj cj))
  have f0 := (cell_of_row _ _ 0 _ _ _ k1).trans (by rfl : _ = some (.func (.func 119) #[] #[]))
  have hw0 := hw.below (hb0.mono hB)
  have hj0 := hj.below (hb0.mono hB)
  have hs0 : w.heap.size ≤ ((w.alloc (.cells #[.slice Aw nw cw, .slice Aj nj cj] 79)).alloc (.cells #[.func (.func 119) #[] #[]] 119)).heap.size := hb0.size
  have hB0 := Nat.le_trans hB hs0
  have HL := Lib.hid hl
  have HLJ := Lib.hid hlj
  have HB := Lib.hid hb0
  obtain ⟨b3, hb3⟩ : ∃ b, W.any badHr = b := ⟨_, rfl⟩
  have HB3 := Lib.hid hb3
  clear hw hj hl hlj hb0 k0 k1 hb3
  go_enter Tryz.func83, Tryz.ntmps83
  go_upto_region 3 with (fail)
  generalize ((w.alloc (.cells #[.slice Aw nw cw, .slice Aj nj cj] 79)).alloc (.cells #[.func (.func 119) #[] #[]] 119)) = w0 at *
  generalize hxx : w.heap.size = x at *
  have HXX := Lib.hid hxx
  clear hxx
  have CW := fun y : Xt w0 => ContainsFunc_165 Aw nw cw B W (x + 1) y.1 (by omega) HL.out (hw0.below (y.2.mono hB0)) (y.cell f0)
  simp only [HB3.out] at CW
  have x0 := fun y : Xt w0 => y.cell c0
  have x1 := fun y : Xt w0 => y.cell c1
  have xf := fun y : Xt w0 => y.cell f0
  rcases Nat.lt_or_ge 5 nw with h5 | h5
  · have q5 : decide ((nw : Int) ≤ 5) = false := decide_eq_false (by omega)
    have q5' : decide (nw ≤ 5) = false := decide_eq_false (by omega)
    have h5i : ¬ (nw : Int) ≤ 5 := by omega
    refine wp_region_cut [] [0, 1, 2, 3, 4, 5, 6, 7, 8, 9, 10, 11, 12, 13, 14, 15, 16, 17, 18, 19, 20, 21] 22 [23, 24] (fun w' => ∃ y : Xt w0, w' = y.1) (by kernel_rfl) (by kernel_rfl) ⟨⟨w0.drew, (Below.refl _ _).drew⟩, rfl⟩ ?_
    simp only [opsAt_nil, opsAt_cons, consOpt_some, List.getElem?_toArray, List.getElem?_cons_zero, List.getElem?_cons_succ]
    refine wpQuiet_nil ?_
    show wpQuiet _ _ _ _ _ _
    repeat (go_big_quiet_step (first | (go_at_call 62; exact Xt.calls_same (unless_any _ _ _)) | (go_at_call 115; exact Xt.calls_same (CW _))))
    refine wpQuiet_nil ?_
    intro w1 hx
    have hbX := Xt.below hx
    clear hx x0 x1 xf CW
    have F3 := fun a b c => first3 w1 a b c
    go_wp2_with (go_at_call 61; refine (F3 _ _ _).mono ?_; rintro e w' ⟨rfl, rfl⟩)
    refine onlyNormal_mk ?_
    clear F3
    generalize hE : firstE _ = E0
    have HV : Hid (workM W J = seqE E0 (jbGo nw J)) := by
      rw [Hid, workM_split, HL.out, HLJ.out, HB3.out, ← hE, show decide (nj ≤ 6) = decide ((nj : Int) ≤ 6) from decide_eq_decide.2 (by omega)]
      simp [q5']
    generalize hw2 : w1.alloc _ = w2
    have hbY : Below w0.heap.size w0 w2 := by rw [← hw2]; exact hbX.alloc hbX.size _
    have HN8 : Hid (E0 ≠ 0) := by
      rw [Hid, ← hE]
      have h0 : 0 < nw := by omega
      simp [firstE, unlessE, h0]
    clear hw2 hE hbX q5 q5' h5i
    by_cases hE0 : E0 = 0
    · exfalso
      exact HN8.out hE0
    · have e1 : (E0 != 0) = true := bne_iff_ne.2 hE0
      have HV2 : Hid (workM W J = E0) := by rw [Hid, HV.out, seqE, if_neg hE0]
      clear hE0
      go_wp2
      go_ret
      exact ⟨by rw [HV2.out]; rfl, HXX.out ▸ HB.out.trans (hbY.mono hs0)⟩
  · have q5 : decide ((nw : Int) ≤ 5) = true := decide_eq_true (by omega)
    have q5' : decide (nw ≤ 5) = true := decide_eq_true (by omega)
    have h5i : (nw : Int) ≤ 5 := by omega
    refine wp_region_cut [] [0, 1, 2, 3, 4, 5, 6, 7, 8, 9, 10, 11, 12, 13, 14, 15, 16, 17, 18, 19, 20, 21] 22 [23, 24] (fun w' => ∃ y : Xt w0, w' = y.1) (by kernel_rfl) (by kernel_rfl) ⟨⟨w0.drew, (Below.refl _ _).drew⟩, rfl⟩ ?_
    simp only [opsAt_nil, opsAt_cons, consOpt_some, List.getElem?_toArray, List.getElem?_cons_zero, List.getElem?_cons_succ]
    refine wpQuiet_nil ?_
    show wpQuiet _ _ _ _ _ _
    repeat (go_big_quiet_step (first | (go_at_call 62; exact Xt.calls_same (unless_any _ _ _)) | (go_at_call 115; exact Xt.calls_same (CW _))))
    refine wpQuiet_nil ?_
    intro w1 hx
    have hbX := Xt.below hx
    clear hx x0 x1 xf CW
    have F3 := fun a b c => first3 w1 a b c
    go_wp2_with (go_at_call 61; refine (F3 _ _ _).mono ?_; rintro e w' ⟨rfl, rfl⟩)
    refine onlyNormal_mk ?_
    clear F3
    generalize hE : firstE _ = E0
    have HV : Hid (workM W J = seqE E0 (jbGo nw J)) := by
      rw [Hid, workM_split, HL.out, HLJ.out, HB3.out, ← hE, show decide (nj ≤ 6) = decide ((nj : Int) ≤ 6) from decide_eq_decide.2 (by omega)]
      simp [q5']
    generalize hw2 : w1.alloc _ = w2
    have hbY : Below w0.heap.size w0 w2 := by rw [← hw2]; exact hbX.alloc hbX.size _
    clear hw2 hE hbX q5 q5' h5i
    by_cases hE0 : E0 = 0
    · have HV2 : Hid (workM W J = jbGo nw J) := by rw [Hid, HV.out, seqE, if_pos hE0]
      subst hE0
      replace c0 := kept hbY c0
      replace c1 := kept hbY c1
      replace f0 := kept hbY f0
      replace hj0 := hj0.below (hbY.mono hB0)
      replace HB := Lib.hid (HB.out.trans (hbY.mono hs0))
      replace hs0 := Nat.le_trans hs0 hbY.size
      replace hB0 := Nat.le_trans hB0 hbY.size
      obtain ⟨V, hV⟩ : ∃ V, jbGo nw J = V := ⟨_, rfl⟩
      rw [hV] at HV2
      have HVV := Lib.hid hV
      clear hbY hw0 HV hV
      go_wp2
      go_loopw [40] (fun u wr => JobRel w2 nw J nj V u wr) (fun u _ => nj - (intOf u).toNat)
      case atStart => exact ⟨0, Nat.zero_le _, rfl, by rw [List.drop_zero]; exact HVV.out, Below.refl _ _⟩
      case round =>
        obtain ⟨k, hk, rfl, hgo, hb⟩ := hrel
        have HBR := Lib.hid hb
        have HGO := Lib.hid hgo
        replace c0 := kept hb c0
        replace c1 := kept hb c1
        replace f0 := kept hb f0
        have hsz := hb.size
        have hr := hj0.below (hb.mono hB0)
        clear hb hj0 hgo
        by_cases hlt : k < nj
        · have hkl : k < J.length := by rw [HLJ.out]; exact hlt
          obtain ⟨ev, hev⟩ : ∃ ev, J[k]? = some ev := ⟨_, List.getElem?_eq_getElem hkl⟩
          obtain ⟨z0, z1, z2⟩ := evCells_at J k ev hev
          obtain ⟨bb, off, rfl, hbB, e0, e1, e2⟩ := hr.at3 z0 z1 z2
          have HS := Lib.hid (drop_cons' hev)
          obtain ⟨h, f, t⟩ := ev
          simp only at e0 e1 e2
          have hba : Below wr.heap.size wr (wr.alloc (.cells #[.int .i64 h, .int .i64 f, .int .i64 t] 81)) := (Below.refl _ _).alloc (Nat.le_refl _) _
          have HBK := Lib.hid (HBR.out.trans (hba.mono hsz))
          have kb : (wr.alloc (.cells #[.int .i64 h, .int .i64 f, .int .i64 t] 81)).heap[wr.heap.size]? = some (.cells #[.int .i64 h, .int .i64 f, .int .i64 t] 81 (0, 0)) := by rw [heapq_alloc, if_pos rfl]
          have m0 := (cell_of_row _ _ 0 _ _ _ kb).trans (by rfl : _ = some (.int .i64 h))
          have m1 := (cell_of_row _ _ 1 _ _ _ kb).trans (by rfl : _ = some (.int .i64 f))
          have m2 := (cell_of_row _ _ 2 _ _ _ kb).trans (by rfl : _ = some (.int .i64 t))
          replace c0 := kept hba c0
          replace f0 := kept hba f0
          have hsa := hba.size
          clear hba kb z0 z1 z2 hev hkl hr HBR
          go_upto_region 9 with (fail)
          generalize wr.alloc (.cells #[.int .i64 h, .int .i64 f, .int .i64 t] 81) = wa at *
          generalize wr.heap.size = zb at *
          clear c1 e0 e1 e2
          have x0 := fun y : Xt wa => y.cell c0
          have xf := fun y : Xt wa => y.cell f0
          have x1 := fun y : Xt wa => y.cell m0
          have x2 := fun y : Xt wa => y.cell m1
          have x3 := fun y : Xt wa => y.cell m2
          rcases Int.lt_or_le 0 h with p0 | p0
          · have d0 : decide (0 < h) = true := decide_eq_true p0
            cases qh : withinB h 0 1000 <;> cases q1 : withinB f 0 ((nw : Int) - 1) <;> cases q2 : withinB t 0 ((nw : Int) - 1)
            all_goals
              have HJ : Hid (jbE nw (h, f, t) = _) := jbE_first nw h f t
              rw [d0, qh, q1, q2] at HJ
              refine wp_region_cut [] [0, 1, 2, 3, 4, 5, 6, 7, 8, 9, 10, 11, 12, 13, 14, 15, 16, 17, 18, 19, 20, 21, 22, 23, 24, 25, 26] 27 [28, 29] (fun w' => ∃ y : Xt wa, w' = y.1) (by kernel_rfl) (by kernel_rfl) ⟨⟨wa.drew, (Below.refl _ _).drew⟩, rfl⟩ ?_
              simp only [opsAt_nil, opsAt_cons, consOpt_some, List.getElem?_toArray, List.getElem?_cons_zero, List.getElem?_cons_succ]
              refine wpQuiet_nil ?_
              show wpQuiet _ _ _ _ _ _
              repeat (go_big_quiet_step (first | (go_at_call 119; exact Xt.calls_same (isHours_val _ _ qh _)) | (go_at_call_of 120 (Value.int .i64 f); exact Xt.calls_same (isWindow_val _ _ _ _ _ _ q1 (by omega) _ (x0 _))) | (go_at_call_of 120 (Value.int .i64 t); exact Xt.calls_same (isWindow_val _ _ _ _ _ _ q2 (by omega) _ (x0 _))) | (go_at_call 62; exact Xt.calls_same (unless_any _ _ _))))
              refine wpQuiet_nil ?_
              intro w3 hx
              have hbW := Xt.below hx
              clear hx qh q1 q2
              have F3 := fun a b c => first3 w3 a b c
              go_wp2_with (go_at_call 61; refine (F3 _ _ _).mono ?_; rintro e w' ⟨rfl, rfl⟩)
              refine onlyNormal_mk ?_
              generalize hE : firstE _ = er
              have HER : Hid (jbE nw (h, f, t) = er) := by rw [Hid, HJ.out, ← hE]; rfl
              generalize hw4 : w3.alloc _ = w4
              have HB4 : Hid (Below w2.heap.size w2 w4) := by rw [Hid, ← hw4]; exact (HBK.out.trans (hbW.mono (Nat.le_trans hsz hsa))).alloc (Nat.le_trans (Nat.le_trans hsz hsa) hbW.size) _
              clear hE hw4 HJ hbW x0 x1 x2 x3 xf F3 d0
              by_cases her : er = 0
              · have e1 : (er != 0) = false := by rw [her]; rfl
                have HG : Hid (jbGo nw (J.drop (k + 1)) = V) := by
                  have := HGO.out
                  rw [HS.out, jbGo, if_pos (HER.out.trans her)] at this
                  exact this
                clear her
                go_wp2
                go_roundw
                case rel => exact ⟨k + 1, by omega, by go_num, HG.out, HB4.out⟩
                case measure => simp [intOf]; omega
              · have e1 : (er != 0) = true := bne_iff_ne.2 her
                have HG : Hid (V = er) := by
                  have := HGO.out
                  rw [HS.out, jbGo, HER.out, if_neg her] at this
                  exact this.symm
                clear her
                go_wp2
                go_ret
                exact ⟨by rw [HV2.out, HG.out]; rfl, HXX.out ▸ HB.out.trans (HB4.out.mono hs0)⟩
          · have d0 : decide (0 < h) = false := decide_eq_false (by omega)
            have p0' : ¬ 0 < h := by omega
            cases qh : withinB h 0 1000 <;> cases q1 : withinB f 0 ((nw : Int) - 1) <;> cases q2 : withinB t 0 ((nw : Int) - 1)
            all_goals
              have HJ : Hid (jbE nw (h, f, t) = _) := jbE_first nw h f t
              rw [d0, qh, q1, q2] at HJ
              refine wp_region_cut [] [0, 1, 2, 3, 4, 5, 6, 7, 8, 9, 10, 11, 12, 13, 14, 15, 16, 17, 18, 19, 20, 21, 22, 23, 24, 25, 26] 27 [28, 29] (fun w' => ∃ y : Xt wa, w' = y.1) (by kernel_rfl) (by kernel_rfl) ⟨⟨wa.drew, (Below.refl _ _).drew⟩, rfl⟩ ?_
              simp only [opsAt_nil, opsAt_cons, consOpt_some, List.getElem?_toArray, List.getElem?_cons_zero, List.getElem?_cons_succ]
              refine wpQuiet_nil ?_
              show wpQuiet _ _ _ _ _ _
              repeat (go_big_quiet_step (first | (go_at_call 119; exact Xt.calls_same (isHours_val _ _ qh _)) | (go_at_call_of 120 (Value.int .i64 f); exact Xt.calls_same (isWindow_val _ _ _ _ _ _ q1 (by omega) _ (x0 _))) | (go_at_call_of 120 (Value.int .i64 t); exact Xt.calls_same (isWindow_val _ _ _ _ _ _ q2 (by omega) _ (x0 _))) | (go_at_call 62; exact Xt.calls_same (unless_any _ _ _))))
              refine wpQuiet_nil ?_
              intro w3 hx
              have hbW := Xt.below hx
              clear hx qh q1 q2
              have F3 := fun a b c => first3 w3 a b c
              go_wp2_with (go_at_call 61; refine (F3 _ _ _).mono ?_; rintro e w' ⟨rfl, rfl⟩)
              refine onlyNormal_mk ?_
              generalize hE : firstE _ = er
              have HER : Hid (jbE nw (h, f, t) = er) := by rw [Hid, HJ.out, ← hE]; rfl
              generalize hw4 : w3.alloc _ = w4
              have HB4 : Hid (Below w2.heap.size w2 w4) := by rw [Hid, ← hw4]; exact (HBK.out.trans (hbW.mono (Nat.le_trans hsz hsa))).alloc (Nat.le_trans (Nat.le_trans hsz hsa) hbW.size) _
              clear hE hw4 HJ hbW x0 x1 x2 x3 xf F3 d0
              by_cases her : er = 0
              · have e1 : (er != 0) = false := by rw [her]; rfl
                have HG : Hid (jbGo nw (J.drop (k + 1)) = V) := by
                  have := HGO.out
                  rw [HS.out, jbGo, if_pos (HER.out.trans her)] at this
                  exact this
                clear her
                go_wp2
                go_roundw
                case rel => exact ⟨k + 1, by omega, by go_num, HG.out, HB4.out⟩
                case measure => simp [intOf]; omega
              · have e1 : (er != 0) = true := bne_iff_ne.2 her
                have HG : Hid (V = er) := by
                  have := HGO.out
                  rw [HS.out, jbGo, HER.out, if_neg her] at this
                  exact this.symm
                clear her
                go_wp2
                go_ret
                exact ⟨by rw [HV2.out, HG.out]; rfl, HXX.out ▸ HB.out.trans (HB4.out.mono hs0)⟩
        · have HG : Hid (V = 0) := by
            have := HGO.out
            rw [List.drop_eq_nil_iff.2 (by rw [HLJ.out]; omega), jbGo] at this
            exact this.symm
          go_wp2
          go_ret
          exact ⟨by rw [HV2.out, HG.out]; rfl, HXX.out ▸ HB.out.trans (HBR.out.mono hs0)⟩
    · have e1 : (E0 != 0) = true := bne_iff_ne.2 hE0
      have HV2 : Hid (workM W J = E0) := by rw [Hid, HV.out, seqE, if_neg hE0]
      clear hE0
      go_wp2
      go_ret
      exact ⟨by rw [HV2.out]; rfl, HXX.out ▸ HB.out.trans (hbY.mono hs0)⟩
end Go.Proofs.YtlbgocgocanloaaGreatDoor
