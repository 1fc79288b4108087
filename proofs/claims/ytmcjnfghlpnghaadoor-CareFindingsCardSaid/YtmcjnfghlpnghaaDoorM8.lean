/- Records: the error of a record. Suspects; which beams explain a record. Suspects, explains, Contains. Records in the reference: the copy, the error, few readings. The reference's Has, Ints, Suspects, explained. The reference's explained; CheckFaults; FaultsErr. CheckFaults; the reference's FaultsErr. The reference's FaultsErr. CareSuspects: the walk. Arguments opened: a record. -/
import Derived.Test.YtmcjnfghlpnghaaDoorM2
import Derived.Test.YtmcjnfghlpnghaaDoorC2
import Derived.IntWalk
import Derived.Test.YtmcjnfghlpnghaaDoorE1
import Derived.Test.YtmcjnfghlpnghaaDoorM4
namespace Go.Proofs.YtmcjnfghlpnghaaDoor
open Go.RowKit

/-- a reading: its first and its last beam, and whether something was wrong -/
abbrev Rg := Int × Int × Bool
def rgVals (x : Rg) : List Value := [.int .i64 x.1, .int .i64 x.2.1, .bool x.2.2]
def rgCells (l : List Rg) : List Value := l.flatMap rgVals
theorem rgCells_cons (x : Rg) (l : List Rg) : rgCells (x :: l) = rgVals x ++ rgCells l := by simp [rgCells]
theorem rgCells_len : ∀ l : List Rg, (rgCells l).length = l.length * 3
  | [] => rfl
  | x :: l => by
    rw [rgCells_cons, List.length_append, rgCells_len l]
    simp [rgVals]
    omega
theorem rgCells_at : ∀ (l : List Rg) (k : Nat) (x : Rg), l[k]? = some x → (rgCells l)[k * 3]? = some (.int .i64 x.1) ∧ (rgCells l)[k * 3 + 1]? = some (.int .i64 x.2.1) ∧ (rgCells l)[k * 3 + 2]? = some (.bool x.2.2)
  | [], k, x, h => by simp at h
  | y :: l, 0, x, h => by
    obtain rfl : y = x := by simpa using h
    simp [rgCells_cons, rgVals]
  | y :: l, k + 1, x, h => by
    have ih := rgCells_at l k x (by simpa using h)
    rw [rgCells_cons, show (k + 1) * 3 = k * 3 + 3 by omega, show k * 3 + 3 + 1 = k * 3 + 1 + 3 by omega, show k * 3 + 3 + 2 = k * 3 + 2 + 3 by omega]
    rw [List.getElem?_append_right (by simp [rgVals]), List.getElem?_append_right (by simp [rgVals]), List.getElem?_append_right (by simp [rgVals])]
    simpa [rgVals] using ih
theorem rgCells_one (l : List Rg) : ∀ u ∈ rgCells l, u.oneCell' = true := by
  intro u hu
  simp only [rgCells, List.mem_flatMap] at hu
  obtain ⟨x, _, hx⟩ := hu
  simp [rgVals] at hx
  rcases hx with rfl | rfl | rfl <;> rfl

/-- the error of a reading -/
def rdE (bm : Int) (x : Rg) : Int := if (withinB x.1 0 (bm - 1) && withinB x.2.1 0 (bm - 1)) = true then (if x.1 ≤ x.2.1 then 0 else 9) else 6
def rdGo (bm : Int) : List Rg → Int
  | [] => 0
  | x :: l => if rdE bm x = 0 then rdGo bm l else rdE bm x
/-- the error of a record -/
def recM (bm : Int) (l : List Rg) : Int := if withinB bm 1 40 = true then (if l.length ≤ 40 then rdGo bm l else 8) else 2

theorem isBeam_val (n bm : Int) (x : Nat) (b : Bool) (hb : withinB n 0 (bm - 1) = b) (h0 : 1 ≤ bm) (h1 : bm ≤ 40) (w : World) (hc : w.cell? ⟨x, 0, none⟩ = some (.int .i64 bm)) :
    Calls Tryd.prog 152 #[.int .i64 n, .pointer (some ⟨x, 0, none⟩)] w fun e w' => e = .returned (.bool b) ∧ w = w' := by
  go_enter Tryd.func152, Tryd.ntmps152
  go_wp2_with (go_at_call 99; refine (within_val _ _ _ _ hb _).mono ?_; rintro e w' ⟨rfl, rfl⟩)
  go_ret
  exact ⟨rfl, rfl⟩

def RecRel (w0 : World) (bm : Int) (l : List Rg) (n : Nat) (V : Int) (u : Value) (wr : World) : Prop := ∃ k : Nat, k ≤ n ∧ u = .int .i64 k ∧ rdGo bm (l.drop k) = V ∧ Below w0.heap.size w0 wr

theorem drop_cons' {α : Type} {l : List α} {k : Nat} {a : α} (h : l[k]? = some a) : l.drop k = a :: l.drop (k + 1) := by
  obtain ⟨hk, rfl⟩ := List.getElem?_eq_some_iff.1 h
  exact List.drop_eq_getElem_cons hk

theorem Xt.calls_to {P : Program} {f : FuncId} {args : Array Value} {w : World} {x : Xt w} {v : Value}
    (h : Calls P f args x.1 fun e w' => e = .returned v ∧ x.1 = w') : Calls P f args x.1 fun e w'' => e = .returned v ∧ ∃ y : Xt w, w'' = y.1 := Xt.calls_same h

set_option maxRecDepth 100000 in
set_option maxHeartbeats 8000000 in
theorem recordErr_any (w : World) (B : Nat) (bm : Int) (A : Option Addr) (n c : Nat) (l : List Rg) (hl : l.length = n) (h : Rd w B A (rgCells l)) (hB : B ≤ w.heap.size) (hn : n ≤ 1000000000) :
    Calls Tryd.prog 119 #[.agg #[.int .i64 bm, .slice A n c]] w (ErrVal w (recM bm l)) := by
  have hb0 : Below w.heap.size w (w.alloc (.cells #[.int .i64 bm, .slice A n c] 96)) := (Below.refl _ _).alloc (Nat.le_refl _) _
  have h0 := h.below (hb0.mono hB)
  have k0 : (w.alloc (.cells #[.int .i64 bm, .slice A n c] 96)).heap[w.heap.size]? = some (.cells #[.int .i64 bm, .slice A n c] 96 (0, 0)) := by rw [heapq_alloc, if_pos rfl]
  have c0 : (w.alloc (.cells #[.int .i64 bm, .slice A n c] 96)).cell? ⟨w.heap.size, 0, none⟩ = some (.int .i64 bm) := (cell_of_row _ _ 0 _ _ _ k0).trans rfl
  have c1 : (w.alloc (.cells #[.int .i64 bm, .slice A n c] 96)).cell? ⟨w.heap.size, 1, none⟩ = some (.slice A n c) := (cell_of_row _ _ 1 _ _ _ k0).trans rfl
  have hs0 : w.heap.size ≤ (w.alloc (.cells #[.int .i64 bm, .slice A n c] 96)).heap.size := hb0.size
  have hB0 := Nat.le_trans hB hs0
  have HL := Lib.hid hl
  have HB := Lib.hid hb0
  obtain ⟨b1, hb1⟩ : ∃ b, withinB bm 1 40 = b := ⟨_, rfl⟩
  have HB1 := Lib.hid hb1
  clear h hl hb0 k0 hb1
  go_enter Tryd.func119, Tryd.ntmps119
  go_upto_region 1 with (fail)
  generalize w.alloc (.cells #[.int .i64 bm, .slice A n c] 96) = w0 at *
  have x0 := fun y : Xt w0 => y.cell c0
  have x1 := fun y : Xt w0 => y.cell c1
  have V1 := fun W => within_val bm 1 40 b1 HB1.out W
  refine wp_region_cut [] [0, 1, 2, 3, 4, 5, 6, 7, 8] 9 [10, 11] (fun w' => ∃ y : Xt w0, w' = y.1) (by kernel_rfl) (by kernel_rfl) ⟨⟨w0.drew, (Below.refl _ _).drew⟩, rfl⟩ ?_
  simp only [opsAt_nil, opsAt_cons, consOpt_some, List.getElem?_toArray, List.getElem?_cons_zero, List.getElem?_cons_succ]
  refine wpQuiet_nil ?_
  show wpQuiet _ _ _ _ _ _
  repeat (go_big_quiet_step (first | (go_at_call 99; exact Xt.calls_same (V1 _)) | (go_at_call 92; exact Xt.calls_same (unless_any _ _ _))))
  refine wpQuiet_nil ?_
  intro w1 hx
  have hbX := Xt.below hx
  clear hx x0 x1 V1
  have hbY := hbX.alloc hbX.size (.cells #[.int .i64 (unlessE b1 2), .int .i64 (unlessE (decide ((n : Int) ≤ 40)) 8)] 29)
  replace c0 := kept hbY c0
  replace c1 := kept hbY c1
  replace h0 := h0.below (hbY.mono hB0)
  replace HB := Lib.hid (HB.out.trans (hbY.mono hs0))
  replace hs0 := Nat.le_trans hs0 hbY.size
  replace hB0 := Nat.le_trans hB0 hbY.size
  have F2 := first2 w1 (unlessE b1 2) (unlessE (decide ((n : Int) ≤ 40)) 8)
  clear hbX hbY
  go_wp2_with (go_at_call 91; refine F2.mono ?_; rintro e w' ⟨rfl, rfl⟩)
  refine onlyNormal_mk ?_
  clear F2
  generalize w1.alloc (.cells #[.int .i64 (unlessE b1 2), .int .i64 (unlessE (decide ((n : Int) ≤ 40)) 8)] 29) = w2 at *
  cases b1 with
  | false =>
    have HV : Hid (recM bm l = 2) := by rw [Hid, recM, HB1.out, if_neg (by decide)]
    have e1 : firstE [unlessE false 2, unlessE (decide ((n : Int) ≤ 40)) 8] = 2 := by simp [firstE, unlessE]
    rw [e1]
    clear e1
    go_wp2
    go_ret
    exact ⟨by rw [HV.out]; rfl, HB.out⟩
  | true =>
    by_cases hn40 : n ≤ 40
    · have HV : Hid (recM bm l = rdGo bm l) := by rw [Hid, recM, HB1.out, if_pos rfl, if_pos (by rw [HL.out]; exact hn40)]
      have e1 : firstE [unlessE true 2, unlessE (decide ((n : Int) ≤ 40)) 8] = 0 := by
        have : decide ((n : Int) ≤ 40) = true := by simp; omega
        rw [this]
        rfl
      rw [e1]
      have hbm : 1 ≤ bm ∧ bm ≤ 40 := by simpa [withinB] using HB1.out
      obtain ⟨hbm0, hbm1⟩ := hbm
      clear e1
      go_wp2
      go_loopw [26] (fun u wr => RecRel w2 bm l n (rdGo bm l) u wr) (fun u _ => n - (intOf u).toNat)
      case atStart => exact ⟨0, Nat.zero_le _, rfl, by simp, Below.refl _ _⟩
      case round =>
        obtain ⟨k, hk, rfl, hgo, hb⟩ := hrel
        have HBR := Lib.hid hb
        replace c0 := kept hb c0
        replace c1 := kept hb c1
        have hsz := hb.size
        have hr := h0.below (hb.mono hB0)
        clear hb h0
        by_cases hlt : k < n
        · have hkl : k < l.length := by rw [HL.out]; exact hlt
          obtain ⟨ev, hev⟩ : ∃ ev, l[k]? = some ev := ⟨_, List.getElem?_eq_getElem hkl⟩
          obtain ⟨z0, z1, z2⟩ := rgCells_at l k ev hev
          obtain ⟨bb, off, rfl, hbB, e0, e1, e2⟩ := hr.at3 z0 z1 z2
          rw [drop_cons' hev, rdGo] at hgo
          obtain ⟨f, td, wr_⟩ := ev
          simp only at e0 e1 e2
          have HGO := Lib.hid hgo
          have hba : Below wr.heap.size wr (wr.alloc (.cells #[.int .i64 f, .int .i64 td, .bool wr_] 175)) := (Below.refl _ _).alloc (Nat.le_refl _) _
          have HBK := Lib.hid (HBR.out.trans (hba.mono hsz))
          have kb : (wr.alloc (.cells #[.int .i64 f, .int .i64 td, .bool wr_] 175)).heap[wr.heap.size]? = some (.cells #[.int .i64 f, .int .i64 td, .bool wr_] 175 (0, 0)) := by rw [heapq_alloc, if_pos rfl]
          have m0 := (cell_of_row _ _ 0 _ _ _ kb).trans (by rfl : _ = some (.int .i64 f))
          have m1 := (cell_of_row _ _ 1 _ _ _ kb).trans (by rfl : _ = some (.int .i64 td))
          replace c0 := kept hba c0
          have hsa := hba.size
          clear hba kb z0 z1 z2 hev hkl hr HBR hgo
          go_upto_region 8 with (fail)
          generalize wr.alloc (.cells #[.int .i64 f, .int .i64 td, .bool wr_] 175) = wa at *
          generalize wr.heap.size = zb at *
          obtain ⟨er, her⟩ : ∃ er, er = rdE bm (f, td, wr_) := ⟨_, rfl⟩
          have HER := Lib.hid her
          clear her
          have x0 := fun y : Xt wa => y.cell c0
          have x1 := fun y : Xt wa => y.cell m0
          have x2 := fun y : Xt wa => y.cell m1
          have HE : Hid (er = firstE [unlessE (withinB f 0 (bm - 1) && withinB td 0 (bm - 1)) 6, unlessE (decide (f ≤ td)) 9]) := by
            rw [Hid, HER.out, rdE]
            cases withinB f 0 (bm - 1) && withinB td 0 (bm - 1)
            · simp [firstE, unlessE]
            · by_cases h : f ≤ td
              · rw [if_pos rfl, if_pos h, decide_eq_true h]
                rfl
              · rw [if_pos rfl, if_neg h, decide_eq_false h]
                rfl
          cases q1 : withinB f 0 (bm - 1) <;> cases q2 : withinB td 0 (bm - 1)
          all_goals
            have HQ1 := Lib.hid q1
            have HQ2 := Lib.hid q2
            refine wp_region_cut [] [0, 1, 2, 3, 4, 5, 6, 7, 8, 9, 10, 11, 12, 13, 14, 15, 16] 17 [18, 19] (fun w' => ∃ y : Xt wa, w' = y.1) (by kernel_rfl) (by kernel_rfl) ⟨⟨wa.drew, (Below.refl _ _).drew⟩, rfl⟩ ?_
            simp only [opsAt_nil, opsAt_cons, consOpt_some, List.getElem?_toArray, List.getElem?_cons_zero, List.getElem?_cons_succ]
            refine wpQuiet_nil ?_
            show wpQuiet _ _ _ _ _ _
            repeat (go_big_quiet_step (first | (go_at_call_of 152 (Value.int .i64 f); exact Xt.calls_same (isBeam_val _ _ _ _ q1 hbm0 hbm1 _ (x0 _))) | (go_at_call_of 152 (Value.int .i64 td); exact Xt.calls_same (isBeam_val _ _ _ _ q2 hbm0 hbm1 _ (x0 _))) | (go_at_call 92; exact Xt.calls_same (unless_any _ _ _))))
            refine wpQuiet_nil ?_
            intro w3 hx
            have hbX := Xt.below hx
            clear hx q1 q2
            have F2 := fun a b => first2 w3 a b
            go_wp2_with (go_at_call 91; refine (F2 _ _).mono ?_; rintro e w' ⟨rfl, rfl⟩)
            refine onlyNormal_mk ?_
            first
              | (have e1 : firstE [unlessE true 6, unlessE (decide (f ≤ td)) 9] = er := by rw [HE.out, HQ1.out, HQ2.out]; rfl
                 have HB4 := Lib.hid ((HBK.out.trans (hbX.mono (Nat.le_trans hsz hsa))).alloc (Nat.le_trans (Nat.le_trans hsz hsa) hbX.size) (.cells #[.int .i64 (unlessE true 6), .int .i64 (unlessE (decide (f ≤ td)) 9)] 29))
                 rw [e1]
                 generalize w3.alloc (.cells #[.int .i64 (unlessE true 6), .int .i64 (unlessE (decide (f ≤ td)) 9)] 29) = w4 at *
                 clear e1 HE HQ1 HQ2 hbX x0 x1 x2 F2
                 by_cases her : er = 0
                 · have e2 : (er != 0) = false := by rw [her]; rfl
                   have HG : Hid (rdGo bm (l.drop (k + 1)) = rdGo bm l) := by
                     have := HGO.out
                     rw [← HER.out, if_pos her] at this
                     exact this
                   clear her
                   go_wp2
                   go_roundw
                   case rel => exact ⟨k + 1, by omega, by go_num, HG.out, HB4.out⟩
                   case measure => simp [intOf]; omega
                 · have e2 : (er != 0) = true := bne_iff_ne.2 her
                   have HG : Hid (rdGo bm l = er) := by
                     have := HGO.out
                     rw [← HER.out, if_neg her] at this
                     exact this.symm
                   clear her
                   go_wp2
                   go_ret
                   exact ⟨by rw [HV.out, HG.out]; rfl, HB.out.trans (HB4.out.mono hs0)⟩)
              | (have e1 : firstE [unlessE false 6, unlessE (decide (f ≤ td)) 9] = er := by rw [HE.out, HQ1.out, HQ2.out]; rfl
                 have HB4 := Lib.hid ((HBK.out.trans (hbX.mono (Nat.le_trans hsz hsa))).alloc (Nat.le_trans (Nat.le_trans hsz hsa) hbX.size) (.cells #[.int .i64 (unlessE false 6), .int .i64 (unlessE (decide (f ≤ td)) 9)] 29))
                 rw [e1]
                 generalize w3.alloc (.cells #[.int .i64 (unlessE false 6), .int .i64 (unlessE (decide (f ≤ td)) 9)] 29) = w4 at *
                 clear e1 HE HQ1 HQ2 hbX x0 x1 x2 F2
                 by_cases her : er = 0
                 · have e2 : (er != 0) = false := by rw [her]; rfl
                   have HG : Hid (rdGo bm (l.drop (k + 1)) = rdGo bm l) := by
                     have := HGO.out
                     rw [← HER.out, if_pos her] at this
                     exact this
                   clear her
                   go_wp2
                   go_roundw
                   case rel => exact ⟨k + 1, by omega, by go_num, HG.out, HB4.out⟩
                   case measure => simp [intOf]; omega
                 · have e2 : (er != 0) = true := bne_iff_ne.2 her
                   have HG : Hid (rdGo bm l = er) := by
                     have := HGO.out
                     rw [← HER.out, if_neg her] at this
                     exact this.symm
                   clear her
                   go_wp2
                   go_ret
                   exact ⟨by rw [HV.out, HG.out]; rfl, HB.out.trans (HB4.out.mono hs0)⟩)
        · obtain rfl : k = n := by omega
          have hd : l.drop k = [] := by rw [List.drop_eq_nil_iff]; rw [HL.out]; exact Nat.le_refl _
          rw [hd] at hgo
          have HG : Hid (rdGo bm l = 0) := hgo.symm
          clear hgo hd
          go_wp2
          go_ret
          exact ⟨by rw [HV.out, HG.out]; rfl, HB.out.trans (HBR.out.mono hs0)⟩
    · have HV : Hid (recM bm l = 8) := by rw [Hid, recM, HB1.out, if_pos rfl, if_neg (by rw [HL.out]; exact hn40)]
      have e1 : firstE [unlessE true 2, unlessE (decide ((n : Int) ≤ 40)) 8] = 8 := by
        have : decide ((n : Int) ≤ 40) = false := by simp; omega
        rw [this]
        rfl
      rw [e1]
      clear e1
      go_wp2
      go_ret
      exact ⟨by rw [HV.out]; rfl, HB.out⟩
end Go.Proofs.YtmcjnfghlpnghaaDoor

namespace Go.Proofs.YtmcjnfghlpnghaaDoor
open Go.RowKit

/-- a good reading over a beam -/
def goodB (b : Int) (x : Rg) : Bool := !x.2.2 && withinB b x.1 x.2.1
/-- a wrong reading over none of some beams -/
def missB (bs : List Int) (x : Rg) : Bool := x.2.2 && !bs.any fun n => withinB n x.1 x.2.1

theorem good_any (x : Rg) (b : Int) (g : Nat) (w : World) (hc : w.cell? ⟨g, 0, none⟩ = some (.int .i64 b)) :
    Calls Tryd.prog 154 #[.agg #[.int .i64 x.1, .int .i64 x.2.1, .bool x.2.2], .pointer (some ⟨g, 0, none⟩)] w fun e w' => e = .returned (.bool (goodB b x)) ∧ Below w.heap.size w w' := by
  obtain ⟨f, t, r⟩ := x
  have hb0 : Below w.heap.size w (w.alloc (.cells #[.int .i64 f, .int .i64 t, .bool r] 175)) := (Below.refl _ _).alloc (Nat.le_refl _) _
  have hc' := cell_alloc_old (.cells #[.int .i64 f, .int .i64 t, .bool r] 175) hc
  simp only
  cases r
  · obtain ⟨c, h1⟩ : ∃ c, withinB b f t = c := ⟨_, rfl⟩
    have HV : Hid (goodB b (f, t, false) = c) := by rw [Hid, ← h1]; rfl
    go_enter Tryd.func154, Tryd.ntmps154
    go_wp2_with (go_at_call 99; refine (within_val _ _ _ _ h1 _).mono ?_; rintro e w' ⟨rfl, rfl⟩)
    go_ret
    exact ⟨by rw [HV.out]; rfl, hb0⟩
  · have HV : Hid (goodB b (f, t, true) = false) := rfl
    go_enter Tryd.func154, Tryd.ntmps154
    go_wp2
    go_ret
    exact ⟨by rw [HV.out]; rfl, hb0⟩

theorem IndexFunc_154 (A : Option Addr) (n c B g : Nat) (l : List Rg) (b0 : Int) (w : World) (hn : n ≤ 1000000000) (hl : l.length = n) (h : Rd w B A (rgCells l)) (hB : B ≤ w.heap.size) (hc : w.cell? ⟨g, 0, none⟩ = some (.int .i64 b0)) :
    Calls Tryd.prog 183 #[.slice A n c, .func (.func 154) #[] #[.pointer (some ⟨g, 0, none⟩)]] w fun e w' => e = .returned (.int .i64 (idxGo (goodB b0) l 0)) ∧ Below w.heap.size w w' := by
  have HL := Lib.hid hl; clear hl
  go_enter Tryd.func183, Tryd.ntmps183
  go_wp2
  go_loopw [5, 8] (fun _ i wr => ∃ k : Nat, k ≤ n ∧ i = .int .i64 k ∧ idxGo (goodB b0) (l.drop k) k = idxGo (goodB b0) l 0 ∧ Below w.heap.size w wr) (fun _ i _ => n - (intOf i).toNat)
  case atStart => exact ⟨0, Nat.zero_le _, rfl, rfl, Below.refl _ _⟩
  case round =>
    obtain ⟨k, hk, rfl, he, hb⟩ := hrel
    have HE := Lib.hid he; clear he
    by_cases hlt : k < n
    · have hkl : k < l.length := by rw [HL.out]; exact hlt
      obtain ⟨ev, hev⟩ : ∃ ev, l[k]? = some ev := ⟨_, List.getElem?_eq_getElem hkl⟩
      obtain ⟨z0, z1, z2⟩ := rgCells_at l k ev hev
      obtain ⟨b, off, rfl, _, e0, e1, e2⟩ := (h.below (hb.mono hB)).at3 z0 z1 z2
      have HS := Lib.hid (drop_cons' hev)
      have C := good_any ev b0 g wr (kept hb hc)
      obtain ⟨f, td, wr_⟩ := ev
      simp only at e0 e1 e2
      have HB := Lib.hid hb
      have hsz := hb.size
      clear hkl z0 z1 z2 hev hb
      cases hz : (goodB b0) (f, td, wr_)
      · rw [hz] at C
        have HZ := Lib.hid hz
        clear hz
        go_wp2_with (go_at_call 154; refine C.mono ?_; rintro e w1 ⟨rfl, hb1⟩)
        go_roundw
        case rel => exact ⟨k + 1, by omega, by go_num, by rw [← HE.out, HS.out, idxGo_cons, HZ.out]; rfl, HB.out.trans (hb1.mono hsz)⟩
        case measure => simp [intOf]; omega
      · rw [hz] at C
        have HZ := Lib.hid hz
        clear hz
        go_wp2_with (go_at_call 154; refine C.mono ?_; rintro e w1 ⟨rfl, hb1⟩)
        go_ret
        exact ⟨by rw [← HE.out, HS.out, idxGo_cons, HZ.out]; rfl, HB.out.trans (hb1.mono hsz)⟩
    · go_wp2
      go_ret
      have : l.drop k = [] := by rw [List.drop_eq_nil_iff]; rw [HL.out]; omega
      exact ⟨by rw [← HE.out, this]; rfl, hb⟩

theorem ContainsFunc_154 (A : Option Addr) (n c B g : Nat) (l : List Rg) (b0 : Int) (w : World) (hn : n ≤ 1000000000) (hl : l.length = n) (h : Rd w B A (rgCells l)) (hB : B ≤ w.heap.size) (hc : w.cell? ⟨g, 0, none⟩ = some (.int .i64 b0)) :
    Calls Tryd.prog 153 #[.slice A n c, .func (.func 154) #[] #[.pointer (some ⟨g, 0, none⟩)]] w fun e w' => e = .returned (.bool (l.any (goodB b0))) ∧ Below w.heap.size w w' := by
  have C := IndexFunc_154 A n c B g l b0 w hn hl h hB hc
  clear h
  go_enter Tryd.func153, Tryd.ntmps153
  go_wp2_with (go_at_call 183; refine C.mono ?_; rintro e w1 ⟨rfl, hb1⟩)
  go_ret
  exact ⟨by rw [← idxGo_nonneg _ l 0]; rfl, hb1⟩

theorem over_val (n f t : Int) (x : Nat) (b : Bool) (hb : withinB n f t = b) (w : World) (h0 : w.cell? ⟨x, 0, none⟩ = some (.int .i64 f)) (h1 : w.cell? ⟨x, 1, none⟩ = some (.int .i64 t)) :
    Calls Tryd.prog 157 #[.int .i64 n, .pointer (some ⟨x, 0, none⟩)] w fun e w' => e = .returned (.bool b) ∧ w = w' := by
  go_enter Tryd.func157, Tryd.ntmps157
  go_wp2_with (go_at_call 99; refine (within_val _ _ _ _ hb _).mono ?_; rintro e w' ⟨rfl, rfl⟩)
  go_ret
  exact ⟨rfl, rfl⟩

theorem IndexFunc_157 (A : Option Addr) (n c B : Nat) (l : List Int) (f t : Int) (x : Nat) (w : World) (hn : n ≤ 1000000000) (hl : l.length = n) (h : Rd w B A (intCells l)) (h0 : w.cell? ⟨x, 0, none⟩ = some (.int .i64 f)) (h1 : w.cell? ⟨x, 1, none⟩ = some (.int .i64 t)) :
    Calls Tryd.prog 95 #[.slice A n c, .func (.func 157) #[] #[.pointer (some ⟨x, 0, none⟩)]] w fun e w' => e = .returned (.int .i64 (idxGo (fun n => withinB n f t) l 0)) ∧ w = w' := by
  have HL := Lib.hid hl; clear hl
  have C := fun n b hb => over_val n f t x b hb w h0 h1
  clear h0 h1
  go_enter Tryd.func95, Tryd.ntmps95
  go_wp2
  go_loop [5, 8] (fun _ i => ∃ k : Nat, k ≤ n ∧ i = .int .i64 k ∧ idxGo (fun n => withinB n f t) (l.drop k) k = idxGo (fun n => withinB n f t) l 0) (fun _ i => n - (intOf i).toNat)
  case atStart => exact ⟨0, Nat.zero_le _, rfl, rfl⟩
  case round =>
    obtain ⟨k, hk, rfl, he⟩ := hrel
    have HE := Lib.hid he; clear he
    by_cases hlt : k < n
    · have hkl : k < l.length := by rw [HL.out]; exact hlt
      obtain ⟨b, off, rfl, _, hc⟩ := h.at_ (intCells_at l k hkl)
      have HS := Lib.hid (drop_at l 0 k hkl)
      clear hkl
      cases hz : withinB (l[k]?.getD 0) f t
      · have C' := C _ _ hz
        have HZ := Lib.hid hz
        clear hz
        go_wp2_with (go_at_call 157; refine C'.mono ?_; rintro e w' ⟨rfl, rfl⟩)
        go_round
        case rel => exact ⟨k + 1, by omega, by go_num, by rw [← HE.out, HS.out, idxGo]; simp [HZ.out]⟩
        case measure => simp [intOf]; omega
      · have C' := C _ _ hz
        have HZ := Lib.hid hz
        clear hz
        go_wp2_with (go_at_call 157; refine C'.mono ?_; rintro e w' ⟨rfl, rfl⟩)
        go_ret
        exact ⟨by rw [← HE.out, HS.out, idxGo]; simp [HZ.out], rfl⟩
    · go_wp2
      go_ret
      have : l.drop k = [] := by rw [List.drop_eq_nil_iff]; rw [HL.out]; omega
      exact ⟨by rw [← HE.out, this]; rfl, rfl⟩

theorem ContainsFunc_157 (A : Option Addr) (n c B : Nat) (l : List Int) (f t : Int) (x : Nat) (w : World) (hn : n ≤ 1000000000) (hl : l.length = n) (h : Rd w B A (intCells l)) (h0 : w.cell? ⟨x, 0, none⟩ = some (.int .i64 f)) (h1 : w.cell? ⟨x, 1, none⟩ = some (.int .i64 t)) :
    Calls Tryd.prog 116 #[.slice A n c, .func (.func 157) #[] #[.pointer (some ⟨x, 0, none⟩)]] w fun e w' => e = .returned (.bool (l.any fun n => withinB n f t)) ∧ w = w' := by
  have C := IndexFunc_157 A n c B l f t x w hn hl h h0 h1
  clear h h0 h1
  go_enter Tryd.func116, Tryd.ntmps116
  go_wp2_with (go_at_call 95; refine C.mono ?_; rintro e w1 ⟨rfl, rfl⟩)
  go_ret
  exact ⟨by rw [← idxGo_nonneg _ l 0]; rfl, rfl⟩

theorem miss_any (x : Rg) (bs : List Int) (A2 : Option Addr) (n2 c2 B2 g : Nat) (w : World) (hn : n2 ≤ 1000000000) (hl : bs.length = n2) (h : Rd w B2 A2 (intCells bs)) (hB : B2 ≤ w.heap.size) (hc : w.cell? ⟨g, 0, none⟩ = some (.slice A2 n2 c2)) :
    Calls Tryd.prog 156 #[.agg #[.int .i64 x.1, .int .i64 x.2.1, .bool x.2.2], .pointer (some ⟨g, 0, none⟩)] w fun e w' => e = .returned (.bool (missB bs x)) ∧ Below w.heap.size w w' := by
  obtain ⟨f, t, r⟩ := x
  have hb0 : Below w.heap.size w (w.alloc (.cells #[.int .i64 f, .int .i64 t, .bool r] 175)) := (Below.refl _ _).alloc (Nat.le_refl _) _
  have hc' := cell_alloc_old (.cells #[.int .i64 f, .int .i64 t, .bool r] 175) hc
  have kb : (w.alloc (.cells #[.int .i64 f, .int .i64 t, .bool r] 175)).heap[w.heap.size]? = some (.cells #[.int .i64 f, .int .i64 t, .bool r] 175 (0, 0)) := by rw [heapq_alloc, if_pos rfl]
  have m0 := (cell_of_row _ _ 0 _ _ _ kb).trans (by rfl : _ = some (.int .i64 f))
  have m1 := (cell_of_row _ _ 1 _ _ _ kb).trans (by rfl : _ = some (.int .i64 t))
  have m2 := (cell_of_row _ _ 2 _ _ _ kb).trans (by rfl : _ = some (.bool r))
  have C := ContainsFunc_157 A2 n2 c2 B2 bs f t w.heap.size _ hn hl (h.below (hb0.mono hB)) m0 m1
  simp only
  obtain ⟨c, h1⟩ : ∃ c, (bs.any fun n => withinB n f t) = c := ⟨_, rfl⟩
  rw [h1] at C
  have HV : Hid (missB bs (f, t, r) = (r && !c)) := by rw [Hid, ← h1]; rfl
  clear h1 hc kb h
  cases r
  · clear C
    go_enter Tryd.func156, Tryd.ntmps156
    go_wp2
    go_ret
    exact ⟨by rw [HV.out]; rfl, hb0⟩
  · go_enter Tryd.func156, Tryd.ntmps156
    go_wp2_with (go_at_call 116; refine C.mono ?_; rintro e w' ⟨rfl, rfl⟩)
    go_ret
    exact ⟨by rw [HV.out]; rfl, hb0⟩

theorem IndexFunc_156 (A : Option Addr) (n c B g : Nat) (l : List Rg) (bs : List Int) (A2 : Option Addr) (n2 c2 B2 : Nat) (w : World) (hn : n ≤ 1000000000) (hl : l.length = n) (h : Rd w B A (rgCells l)) (hB : B ≤ w.heap.size) (hn2 : n2 ≤ 1000000000) (hl2 : bs.length = n2) (h2 : Rd w B2 A2 (intCells bs)) (hB2 : B2 ≤ w.heap.size) (hc : w.cell? ⟨g, 0, none⟩ = some (.slice A2 n2 c2)) :
    Calls Tryd.prog 183 #[.slice A n c, .func (.func 156) #[] #[.pointer (some ⟨g, 0, none⟩)]] w fun e w' => e = .returned (.int .i64 (idxGo (missB bs) l 0)) ∧ Below w.heap.size w w' := by
  have HL := Lib.hid hl; clear hl
  have HL2 := Lib.hid hl2; clear hl2
  go_enter Tryd.func183, Tryd.ntmps183
  go_wp2
  go_loopw [5, 8] (fun _ i wr => ∃ k : Nat, k ≤ n ∧ i = .int .i64 k ∧ idxGo (missB bs) (l.drop k) k = idxGo (missB bs) l 0 ∧ Below w.heap.size w wr) (fun _ i _ => n - (intOf i).toNat)
  case atStart => exact ⟨0, Nat.zero_le _, rfl, rfl, Below.refl _ _⟩
  case round =>
    obtain ⟨k, hk, rfl, he, hb⟩ := hrel
    have HE := Lib.hid he; clear he
    by_cases hlt : k < n
    · have hkl : k < l.length := by rw [HL.out]; exact hlt
      obtain ⟨ev, hev⟩ : ∃ ev, l[k]? = some ev := ⟨_, List.getElem?_eq_getElem hkl⟩
      obtain ⟨z0, z1, z2⟩ := rgCells_at l k ev hev
      obtain ⟨b, off, rfl, _, e0, e1, e2⟩ := (h.below (hb.mono hB)).at3 z0 z1 z2
      have HS := Lib.hid (drop_cons' hev)
      have C := miss_any ev bs A2 n2 c2 B2 g wr hn2 HL2.out (h2.below (hb.mono hB2)) (Nat.le_trans hB2 hb.size) (kept hb hc)
      obtain ⟨f, td, wr_⟩ := ev
      simp only at e0 e1 e2
      have HB := Lib.hid hb
      have hsz := hb.size
      clear hkl z0 z1 z2 hev hb
      cases hz : (missB bs) (f, td, wr_)
      · rw [hz] at C
        have HZ := Lib.hid hz
        clear hz
        go_wp2_with (go_at_call 156; refine C.mono ?_; rintro e w1 ⟨rfl, hb1⟩)
        go_roundw
        case rel => exact ⟨k + 1, by omega, by go_num, by rw [← HE.out, HS.out, idxGo_cons, HZ.out]; rfl, HB.out.trans (hb1.mono hsz)⟩
        case measure => simp [intOf]; omega
      · rw [hz] at C
        have HZ := Lib.hid hz
        clear hz
        go_wp2_with (go_at_call 156; refine C.mono ?_; rintro e w1 ⟨rfl, hb1⟩)
        go_ret
        exact ⟨by rw [← HE.out, HS.out, idxGo_cons, HZ.out]; rfl, HB.out.trans (hb1.mono hsz)⟩
    · go_wp2
      go_ret
      have : l.drop k = [] := by rw [List.drop_eq_nil_iff]; rw [HL.out]; omega
      exact ⟨by rw [← HE.out, this]; rfl, hb⟩

theorem ContainsFunc_156 (A : Option Addr) (n c B g : Nat) (l : List Rg) (bs : List Int) (A2 : Option Addr) (n2 c2 B2 : Nat) (w : World) (hn : n ≤ 1000000000) (hl : l.length = n) (h : Rd w B A (rgCells l)) (hB : B ≤ w.heap.size) (hn2 : n2 ≤ 1000000000) (hl2 : bs.length = n2) (h2 : Rd w B2 A2 (intCells bs)) (hB2 : B2 ≤ w.heap.size) (hc : w.cell? ⟨g, 0, none⟩ = some (.slice A2 n2 c2)) :
    Calls Tryd.prog 153 #[.slice A n c, .func (.func 156) #[] #[.pointer (some ⟨g, 0, none⟩)]] w fun e w' => e = .returned (.bool (l.any (missB bs))) ∧ Below w.heap.size w w' := by
  have C := IndexFunc_156 A n c B g l bs A2 n2 c2 B2 w hn hl h hB hn2 hl2 h2 hB2 hc
  clear h
  go_enter Tryd.func153, Tryd.ntmps153
  go_wp2_with (go_at_call 183; refine C.mono ?_; rintro e w1 ⟨rfl, hb1⟩)
  go_ret
  exact ⟨by rw [← idxGo_nonneg _ l 0]; rfl, hb1⟩
end Go.Proofs.YtmcjnfghlpnghaaDoor

namespace Go.Proofs.YtmcjnfghlpnghaaDoor
open Go.RowKit

/-- the suspects below a number -/
def suspK (l : List Rg) (k : Nat) : List Int := ((List.range k).filter fun (b : Nat) => !l.any (goodB (b : Int))).map fun (b : Nat) => (b : Int)
theorem suspK_yes {l : List Rg} {k : Nat} (h : l.any (goodB (k : Int)) = false) : suspK l (k + 1) = suspK l k ++ [(k : Int)] := by
  simp [suspK, List.range_succ, List.filter_append, h]
theorem suspK_no {l : List Rg} {k : Nat} (h : l.any (goodB (k : Int)) = true) : suspK l (k + 1) = suspK l k := by
  simp [suspK, List.range_succ, List.filter_append, h]
theorem suspK_len (l : List Rg) (k : Nat) : (suspK l k).length ≤ k := by
  simp only [suspK, List.length_map]
  exact Nat.le_trans (List.length_filter_le _ _) (by simp)
theorem suspK_in {l : List Rg} {k : Nat} : ∀ x ∈ suspK l k, 0 ≤ x ∧ x < k := by
  intro x hx
  simp only [suspK, List.mem_map, List.mem_filter, List.mem_range] at hx
  obtain ⟨b, ⟨h1, _⟩, rfl⟩ := hx
  omega

theorem rd_own {w : World} {B e size n c : Nat} {A : Option Addr} {xs : List Value} (h : w.ownsRow B e size (.slice A n c) n xs) : Rd w w.heap.size A xs := by
  rcases h.2 with ⟨h1, h2⟩ | ⟨g, cap, cur, h1, _⟩
  · intro k u hk
    have := h.1
    rw [h2, Nat.zero_mul] at this
    rw [List.eq_nil_of_length_eq_zero this] at hk
    simp at hk
  · simp only [Value.slice.injEq] at h1
    obtain ⟨rfl, _, rfl⟩ := h1
    exact Rd_of_own h

def SuspRel (w0 : World) (l : List Rg) (n : Nat) (u3 u8 : Value) (wr : World) : Prop :=
  ∃ k : Nat, k ≤ n ∧ u8 = .int .i64 k ∧ wr.ownsRow w0.heap.size 3 1 u3 (suspK l k).length (intCells (suspK l k)) ∧ Below w0.heap.size w0 wr

set_option maxRecDepth 100000 in
set_option maxHeartbeats 8000000 in
theorem suspects_any (w : World) (B : Nat) (bm : Nat) (A : Option Addr) (n c : Nat) (l : List Rg) (hl : l.length = n) (h : Rd w B A (rgCells l)) (hB : B ≤ w.heap.size) (hn : n ≤ 40) (hbm : bm ≤ 40) :
    Calls Tryd.prog 120 #[.agg #[.int .i64 bm, .slice A n c]] w (IntsPost w (suspK l bm) (suspK l bm).length) := by
  obtain ⟨i1, hi1, hy0, hy1, hy2⟩ := info_parts info3
  have hb0 : Below w.heap.size w (w.alloc (.cells #[.int .i64 (bm : Int), .slice A n c] 96)) := (Below.refl _ _).alloc (Nat.le_refl _) _
  have h0 := h.below (hb0.mono hB)
  have k0 : (w.alloc (.cells #[.int .i64 (bm : Int), .slice A n c] 96)).heap[w.heap.size]? = some (.cells #[.int .i64 (bm : Int), .slice A n c] 96 (0, 0)) := by rw [heapq_alloc, if_pos rfl]
  have c0 : (w.alloc (.cells #[.int .i64 (bm : Int), .slice A n c] 96)).cell? ⟨w.heap.size, 0, none⟩ = some (.int .i64 (bm : Int)) := (cell_of_row _ _ 0 _ _ _ k0).trans rfl
  have c1 : (w.alloc (.cells #[.int .i64 (bm : Int), .slice A n c] 96)).cell? ⟨w.heap.size, 1, none⟩ = some (.slice A n c) := (cell_of_row _ _ 1 _ _ _ k0).trans rfl
  have hs0 : w.heap.size ≤ (w.alloc (.cells #[.int .i64 (bm : Int), .slice A n c] 96)).heap.size := hb0.size
  have hB0 := Nat.le_trans hB hs0
  have HL := Lib.hid hl
  have HB := Lib.hid hb0
  clear h hl hb0 k0
  go_enter Tryd.func120, Tryd.ntmps120
  go_upto_region 1 with (fail)
  generalize w.alloc (.cells #[.int .i64 (bm : Int), .slice A n c] 96) = w0 at *
  go_wp2
  go_loopw [3, 8] (fun u3 u8 wr => SuspRel w0 l bm u3 u8 wr) (fun _ u8 _ => bm - (intOf u8).toNat)
  case atStart => exact ⟨0, Nat.zero_le _, rfl, ⟨rfl, .inl ⟨rfl, rfl⟩⟩, Below.refl _ _⟩
  case round =>
    obtain ⟨k, hk, rfl, hown, hb⟩ := hrel
    have HOWN := Lib.hid hown
    obtain ⟨Au, cu, rfl⟩ := rowForm hown
    have HBW := Lib.hid hb
    have hsz := hb.size
    have c1' := kept hb c1
    have hr := h0.below (hb.mono hB0)
    have hl41 := suspK_len l k
    clear hb hown
    by_cases hlt : k < bm
    · have hba : Below wr.heap.size wr (wr.alloc (.cells #[.int .i64 (k : Int)] 3)) := (Below.refl _ _).alloc (Nat.le_refl _) _
      have kb : (wr.alloc (.cells #[.int .i64 (k : Int)] 3)).heap[wr.heap.size]? = some (.cells #[.int .i64 (k : Int)] 3 (0, 0)) := by rw [heapq_alloc, if_pos rfl]
      have m0 := (cell_of_row _ _ 0 _ _ _ kb).trans (by rfl : _ = some (.int .i64 (k : Int)))
      replace c1' := kept hba c1'
      have hr' := hr.below (hba.mono (Nat.le_trans hB0 hsz))
      have HOWA := Lib.hid (ownsRow_below HOWN.out hba)
      have HBA := Lib.hid (HBW.out.trans (hba.mono hsz))
      have hsa := Nat.le_trans hsz hba.size
      clear hba kb hr HOWN HBW
      go_upto_region 5 with (fail)
      generalize wr.alloc (.cells #[.int .i64 (k : Int)] 3) = wa at *
      generalize wr.heap.size = zb at *
      have C := ContainsFunc_154 A n c B zb l (k : Int) wa (by omega) HL.out hr' (Nat.le_trans hB0 hsa) m0
      cases hz : l.any (goodB (k : Int)) with
      | true =>
        rw [hz] at C
        have HK := Lib.hid (suspK_no hz)
        clear hz
        go_wp2_with (go_at_call 153; refine C.mono ?_; rintro e w2 ⟨rfl, hb2⟩)
        go_roundw
        case rel => exact ⟨k + 1, by omega, by go_num, by rw [HK.out]; exact ownsRow_below HOWA.out hb2, HBA.out.trans (hb2.mono hsa)⟩
        case measure => simp [intOf]; omega
      | false =>
        rw [hz] at C
        have HK := Lib.hid (suspK_yes hz)
        clear hz
        go_upto_region 7 with (go_at_call 153; refine C.mono ?_; rintro e w2 ⟨rfl, hb2⟩)
        have m0' := kept hb2 m0
        have HOW2 := Lib.hid (ownsRow_below HOWA.out hb2)
        have HB2 := Lib.hid (HBA.out.trans (hb2.mono hsa))
        have hs2 := Nat.le_trans hsa hb2.size
        clear hb2 C m0 c1' hr' HOWA HBA
        go_wp2_with (at_builtin; refine stp ?_)
        unfold Stp
        refine wpList_append_lies _ rfl _ _ 39 rfl w0.heap.size 3 i1 _ 1 8 Tryd.underlying39 hi1 hy0 hy1 hy2 rfl (by omega) (.slice Au (suspK l k).length cu) (suspK l k).length (intCells (suspK l k)) rfl (HOW2.out.alloc _) ⟨w2.heap.size, 0, none⟩ 1 1 [.int .i64 (k : Int)] rfl rfl (news1 (by simp)) (by simp [Value.oneCell']) (by omega) (by simp only [maxLen]; omega) (by omega) (by simp; omega) _ rfl ?_
        intro gg cap w3 hown1 hgrow hat hlt9
        have hb9 : Below w0.heap.size w0 w3 := (HB2.out.alloc hs2 _).grown hgrow (by simp; omega) (fun k hk => (ownBlk HOW2.out hk).1)
        have HOWN1 := Lib.hid hown1
        have HB9 := Lib.hid hb9
        clear hown1 hgrow hat hlt9 hb9 m0'
        go_wp2
        go_roundw
        case rel => exact ⟨k + 1, by omega, by go_num, (by rw [HK.out]; simpa [intCells] using HOWN1.out), HB9.out⟩
        case measure => simp [intOf]; omega
    · obtain rfl : k = bm := by omega
      go_wp2
      go_ret
      exact ⟨_, _, rfl, rd_own HOWN.out, HB.out.trans (HBW.out.mono hs0)⟩

theorem recM_zero {bm : Int} {l : List Rg} (h : recM bm l = 0) : 1 ≤ bm ∧ bm ≤ 40 ∧ l.length ≤ 40 := by
  unfold recM at h
  split at h
  · rename_i h1
    split at h
    · rename_i h2
      have : 1 ≤ bm ∧ bm ≤ 40 := by simpa [withinB] using h1
      exact ⟨this.1, this.2, h2⟩
    · cases h
  · cases h

def SuspPost (w : World) (l : List Int) (e : Ending) (w' : World) : Prop :=
  ∃ A c, e = .returned (.tuple #[.slice A l.length c, .int .i64 0]) ∧ Rd w' w'.heap.size A (intCells l) ∧ Below w.heap.size w w'

set_option maxHeartbeats 2000000 in
theorem Suspects_no (w : World) (B : Nat) (bm : Int) (A : Option Addr) (n c : Nat) (l : List Rg) (hl : l.length = n) (h : Rd w B A (rgCells l)) (hB : B ≤ w.heap.size) (hn : n ≤ 1000000000) (h0 : recM bm l ≠ 0) :
    Calls Tryd.prog 62 #[.agg #[.int .i64 bm, .slice A n c]] w fun e w' => e = .returned (.tuple #[.slice none 0 0, .int .i64 (recM bm l)]) ∧ Below w.heap.size w w' := by
  have hb0 : Below w.heap.size w (w.alloc (.cells #[.int .i64 bm, .slice A n c] 96)) := (Below.refl _ _).alloc (Nat.le_refl _) _
  have k0 : (w.alloc (.cells #[.int .i64 bm, .slice A n c] 96)).heap[w.heap.size]? = some (.cells #[.int .i64 bm, .slice A n c] 96 (0, 0)) := by rw [heapq_alloc, if_pos rfl]
  have c0 : (w.alloc (.cells #[.int .i64 bm, .slice A n c] 96)).cell? ⟨w.heap.size, 0, none⟩ = some (.int .i64 bm) := (cell_of_row _ _ 0 _ _ _ k0).trans rfl
  have c1 : (w.alloc (.cells #[.int .i64 bm, .slice A n c] 96)).cell? ⟨w.heap.size, 1, none⟩ = some (.slice A n c) := (cell_of_row _ _ 1 _ _ _ k0).trans rfl
  have R := recordErr_any (w.alloc (.cells #[.int .i64 bm, .slice A n c] 96)) B bm A n c l hl (h.below (hb0.mono hB)) (Nat.le_trans hB hb0.size) hn
  unfold ErrVal at R
  have e1 : (recM bm l != 0) = true := bne_iff_ne.2 h0
  have HB := Lib.hid hb0
  have hs0 := hb0.size
  generalize recM bm l = er at *
  clear h hl hb0 k0 h0
  go_enter Tryd.func62, Tryd.ntmps62
  go_upto_region 1 with (fail)
  generalize w.alloc (.cells #[.int .i64 bm, .slice A n c] 96) = w0 at *
  go_wp2_with (go_at_call 119; refine R.mono ?_; rintro e w1 ⟨rfl, hb1⟩)
  go_ret2
  exact ⟨rfl, HB.out.trans (hb1.mono hs0)⟩

set_option maxHeartbeats 2000000 in
theorem Suspects_yes (w : World) (B : Nat) (bm : Nat) (A : Option Addr) (n c : Nat) (l : List Rg) (hl : l.length = n) (h : Rd w B A (rgCells l)) (hB : B ≤ w.heap.size) (h0 : recM bm l = 0) :
    Calls Tryd.prog 62 #[.agg #[.int .i64 bm, .slice A n c]] w (SuspPost w (suspK l bm)) := by
  obtain ⟨r1, r2, r3⟩ := recM_zero h0
  rw [hl] at r3
  have hb0 : Below w.heap.size w (w.alloc (.cells #[.int .i64 (bm : Int), .slice A n c] 96)) := (Below.refl _ _).alloc (Nat.le_refl _) _
  have k0 : (w.alloc (.cells #[.int .i64 (bm : Int), .slice A n c] 96)).heap[w.heap.size]? = some (.cells #[.int .i64 (bm : Int), .slice A n c] 96 (0, 0)) := by rw [heapq_alloc, if_pos rfl]
  have c0 : (w.alloc (.cells #[.int .i64 (bm : Int), .slice A n c] 96)).cell? ⟨w.heap.size, 0, none⟩ = some (.int .i64 (bm : Int)) := (cell_of_row _ _ 0 _ _ _ k0).trans rfl
  have c1 : (w.alloc (.cells #[.int .i64 (bm : Int), .slice A n c] 96)).cell? ⟨w.heap.size, 1, none⟩ = some (.slice A n c) := (cell_of_row _ _ 1 _ _ _ k0).trans rfl
  have hr0 := h.below (hb0.mono hB)
  have R := recordErr_any (w.alloc (.cells #[.int .i64 (bm : Int), .slice A n c] 96)) B bm A n c l hl hr0 (Nat.le_trans hB hb0.size) (by omega)
  unfold ErrVal at R
  rw [h0] at R
  have HB := Lib.hid hb0
  have HL := Lib.hid hl
  have hs0 := hb0.size
  have hB0 := Nat.le_trans hB hs0
  clear h hl hb0 k0 h0
  go_enter Tryd.func62, Tryd.ntmps62
  go_upto_region 1 with (fail)
  generalize w.alloc (.cells #[.int .i64 (bm : Int), .slice A n c] 96) = w0 at *
  go_wp2_with fail
  refine R.mono ?_
  rintro e w1 ⟨rfl, hb1⟩
  replace c0 := kept hb1 c0
  replace c1 := kept hb1 c1
  have S := suspects_any w1 B bm A n c l HL.out (hr0.below (hb1.mono hB0)) (Nat.le_trans hB0 hb1.size) r3 (by omega)
  have HB1 := Lib.hid (HB.out.trans (hb1.mono hs0))
  have hs1 := Nat.le_trans hs0 hb1.size
  clear hb1 R hr0
  generalize suspK l bm = L at *
  go_wp2_with fail
  refine S.mono ?_
  rintro e w2 ⟨A', c', rfl, hR, hb2⟩
  have HR := Lib.hid hR
  have HBE := Lib.hid (HB1.out.trans (hb2.mono hs1))
  clear hR hb2 S
  go_wp2
  go_ret2
  exact ⟨A', c', rfl, HR.out, HBE.out⟩

set_option maxHeartbeats 2000000 in
theorem explains_any (w : World) (B : Nat) (bm : Int) (A A2 : Option Addr) (n c n2 c2 : Nat) (l : List Rg) (bs : List Int) (hl : l.length = n) (hl2 : bs.length = n2) (h : Rd w B A (rgCells l)) (h2 : Rd w B A2 (intCells bs)) (hB : B ≤ w.heap.size) (hn : n ≤ 1000000000) (hn2 : n2 ≤ 1000000000) :
    Calls Tryd.prog 122 #[.agg #[.int .i64 bm, .slice A n c], .slice A2 n2 c2] w fun e w' => e = .returned (.bool (!l.any (missB bs))) ∧ Below w.heap.size w w' := by
  have hb0 : Below w.heap.size w ((w.alloc (.cells #[.int .i64 bm, .slice A n c] 96)).alloc (.cells #[.slice A2 n2 c2] 39)) := ((Below.refl _ _).alloc (Nat.le_refl _) _).alloc (by simp) _
  have k0 : ((w.alloc (.cells #[.int .i64 bm, .slice A n c] 96)).alloc (.cells #[.slice A2 n2 c2] 39)).heap[w.heap.size]? = some (.cells #[.int .i64 bm, .slice A n c] 96 (0, 0)) := by rw [heapq_alloc, if_neg (by simp), heapq_alloc, if_pos rfl]
  have k1 : ((w.alloc (.cells #[.int .i64 bm, .slice A n c] 96)).alloc (.cells #[.slice A2 n2 c2] 39)).heap[w.heap.size + 1]? = some (.cells #[.slice A2 n2 c2] 39 (0, 0)) := by rw [heapq_alloc, if_pos (by simp)]
  have c1 : ((w.alloc (.cells #[.int .i64 bm, .slice A n c] 96)).alloc (.cells #[.slice A2 n2 c2] 39)).cell? ⟨w.heap.size, 1, none⟩ = some (.slice A n c) := (cell_of_row _ _ 1 _ _ _ k0).trans rfl
  have d0 : ((w.alloc (.cells #[.int .i64 bm, .slice A n c] 96)).alloc (.cells #[.slice A2 n2 c2] 39)).cell? ⟨w.heap.size + 1, 0, none⟩ = some (.slice A2 n2 c2) := (cell_of_row _ _ 0 _ _ _ k1).trans rfl
  have hs0 := hb0.size
  have C := ContainsFunc_156 A n c B (w.heap.size + 1) l bs A2 n2 c2 B _ hn hl (h.below (hb0.mono hB)) (Nat.le_trans hB hs0) hn2 hl2 (h2.below (hb0.mono hB)) (Nat.le_trans hB hs0) d0
  have HB := Lib.hid hb0
  clear h h2 hl hl2 hb0 k0 k1
  generalize l.any (missB bs) = r at *
  go_enter Tryd.func122, Tryd.ntmps122
  go_upto_region 1 with (fail)
  generalize (w.alloc (.cells #[.int .i64 bm, .slice A n c] 96)).alloc (.cells #[.slice A2 n2 c2] 39) = w0 at *
  go_wp2_with (go_at_call 153; refine C.mono ?_; rintro e w1 ⟨rfl, hb1⟩)
  go_ret
  exact ⟨rfl, HB.out.trans (hb1.mono hs0)⟩

/-- is a number among some -/
def hasI (l : List Int) (x : Int) : Bool := l.any fun y => y == x

theorem Index_any (A : Option Addr) (n c B : Nat) (l : List Int) (x : Int) (w : World) (hn : n ≤ 1000000000) (hl : l.length = n) (h : Rd w B A (intCells l)) :
    Calls Tryd.prog 155 #[.slice A n c, .int .i64 x] w fun e w' => e = .returned (.int .i64 (idxGo (fun y => y == x) l 0)) ∧ w = w' := by
  have HL := Lib.hid hl; clear hl
  go_enter Tryd.func155, Tryd.ntmps155
  go_wp2
  go_loop [5, 8] (fun _ i => ∃ k : Nat, k ≤ n ∧ i = .int .i64 k ∧ idxGo (fun y => y == x) (l.drop k) k = idxGo (fun y => y == x) l 0) (fun _ i => n - (intOf i).toNat)
  case atStart => exact ⟨0, Nat.zero_le _, rfl, rfl⟩
  case round =>
    obtain ⟨k, hk, rfl, he⟩ := hrel
    have HE := Lib.hid he; clear he
    by_cases hlt : k < n
    · have hkl : k < l.length := by rw [HL.out]; exact hlt
      obtain ⟨b, off, rfl, _, hc⟩ := h.at_ (intCells_at l k hkl)
      have HS := Lib.hid (drop_at l 0 k hkl)
      clear hkl
      generalize l[k]?.getD 0 = q at *
      by_cases hz : q = x
      · have h1 : (x == q) = true := by simp [hz]
        have HZ : Hid ((q == x) = true) := by simp [Hid, hz]
        clear hz
        go_wp2
        go_ret
        exact ⟨by rw [← HE.out, HS.out, idxGo]; simp [HZ.out], rfl⟩
      · have h1 : (x == q) = false := beq_eq_false_iff_ne.2 (Ne.symm hz)
        have HZ : Hid ((q == x) = false) := beq_eq_false_iff_ne.2 hz
        clear hz
        go_wp2
        go_round
        case rel => exact ⟨k + 1, by omega, by go_num, by rw [← HE.out, HS.out, idxGo]; simp [HZ.out]⟩
        case measure => simp [intOf]; omega
    · go_wp2
      go_ret
      have : l.drop k = [] := by rw [List.drop_eq_nil_iff]; rw [HL.out]; omega
      exact ⟨by rw [← HE.out, this]; rfl, rfl⟩
theorem Contains_any (A : Option Addr) (n c B : Nat) (l : List Int) (x : Int) (w : World) (hn : n ≤ 1000000000) (hl : l.length = n) (h : Rd w B A (intCells l)) :
    Calls Tryd.prog 121 #[.slice A n c, .int .i64 x] w fun e w' => e = .returned (.bool (hasI l x)) ∧ w = w' := by
  have C := Index_any A n c B l x w hn hl h
  clear h
  go_enter Tryd.func121, Tryd.ntmps121
  go_wp2_with (go_at_call 155; refine C.mono ?_; rintro e w1 ⟨rfl, rfl⟩)
  go_ret
  exact ⟨by rw [hasI, ← idxGo_nonneg _ l 0]; rfl, rfl⟩
end Go.Proofs.YtmcjnfghlpnghaaDoor

namespace Go.Proofs.YtmcjnfghlpnghaaDoor
open Go.RowKit

theorem info175 : (Tryd.prog.info? 175).map (fun i => (i.zero, i.size, i.bytes)) = some (some (.agg #[.int .i64 0, .int .i64 0, .bool false]), 3, 24) := by kernel_rfl

def RecCopied (w : World) (bm : Int) (l : List Rg) (n : Nat) (e : Ending) (w' : World) : Prop :=
  ∃ A c, e = .returned (.agg #[.int .i64 bm, .slice A n c]) ∧ Rd w' w'.heap.size A (rgCells l) ∧ Below w.heap.size w w'

set_option maxRecDepth 100000 in
set_option maxHeartbeats 4000000 in
theorem CopyRecord_any (w : World) (B : Nat) (bm : Int) (A : Option Addr) (n c : Nat) (l : List Rg) (hl : l.length = n) (hn : n ≤ 1000000) (h : Rd w B A (rgCells l)) (hB : B ≤ w.heap.size) :
    Calls Tryd.prog 63 #[.agg #[.int .i64 bm, .slice A n c]] w (RecCopied w bm l n) := by
  obtain ⟨i1, hi1, hy0, hy1, hy2⟩ := info_parts info175
  have hb0 : Below w.heap.size w ((w.alloc (.cells #[.int .i64 bm, .slice A n c] 96)).alloc (.cells #[.int .i64 0, .slice none 0 0] 96)) := ((Below.refl _ _).alloc (Nat.le_refl _) _).alloc (by simp) _
  have k0 : ((w.alloc (.cells #[.int .i64 bm, .slice A n c] 96)).alloc (.cells #[.int .i64 0, .slice none 0 0] 96)).heap[w.heap.size]? = some (.cells #[.int .i64 bm, .slice A n c] 96 (0, 0)) := by
    rw [heapq_alloc, if_neg (by simp), heapq_alloc, if_pos rfl]
  have k1 : ((w.alloc (.cells #[.int .i64 bm, .slice A n c] 96)).alloc (.cells #[.int .i64 0, .slice none 0 0] 96)).heap[w.heap.size + 1]? = some (.cells #[.int .i64 0, .slice none 0 0] 96 (0, 0)) := by
    rw [heapq_alloc, if_pos (by simp)]
  have h0 := h.below (hb0.mono hB)
  have hs1 := hb0.size
  have hx1 : w.heap.size + 1 < ((w.alloc (.cells #[.int .i64 bm, .slice A n c] 96)).alloc (.cells #[.int .i64 0, .slice none 0 0] 96)).heap.size := by simp
  have HB := Lib.hid hb0
  have HL := Lib.hid hl
  have K1 := Lib.hid k1
  have a0 : ((w.alloc (.cells #[.int .i64 bm, .slice A n c] 96)).alloc (.cells #[.int .i64 0, .slice none 0 0] 96)).cell? ⟨w.heap.size, 0, none⟩ = some (.int .i64 bm) := (cell_of_row _ _ 0 _ _ _ k0).trans rfl
  have a1 : ((w.alloc (.cells #[.int .i64 bm, .slice A n c] 96)).alloc (.cells #[.int .i64 0, .slice none 0 0] 96)).cell? ⟨w.heap.size, 1, none⟩ = some (.slice A n c) := (cell_of_row _ _ 1 _ _ _ k0).trans rfl
  have HX := Lib.hid hx1
  clear hl h hb0 k0 k1 hx1
  go_enter Tryd.func63, Tryd.ntmps63
  go_upto_region 1 with (fail)
  generalize ((w.alloc (.cells #[.int .i64 bm, .slice A n c] 96)).alloc (.cells #[.int .i64 0, .slice none 0 0] 96)) = W0 at *
  have hBW : B ≤ W0.heap.size := Nat.le_trans hB hs1
  generalize hx : w.heap.size = x at *
  have HXX := Lib.hid hx
  clear hx
  have x0 := fun y : Xt W0 => y.cell a0
  have x1 := fun y : Xt W0 => y.cell a1
  refine wp_region_eager [6, 7] (fun w' => ∃ y : Xt W0, w' = y.1) (by kernel_rfl) ⟨⟨W0.drew, (Below.refl _ _).drew⟩, rfl⟩ ?_
  refine wpE_reads [0, 1, 3, 4] 4 rfl (by kernel_rfl) ?_
  simp only [opsAt_nil, opsAt_cons, consOpt_some, List.getElem?_toArray, List.getElem?_cons_zero, List.getElem?_cons_succ]
  repeat (go_big_quiet_step (fail))
  refine wpQuiet_nil ?_
  have hbd : Below W0.heap.size W0 W0.drew := (Below.refl _ _).drew
  show wpE _ _ _ _ _ _ _ _ _ W0.drew
  generalize W0.drew = wd at *
  clear x0 x1 a0 a1
  refine wpE_one (i := 2) rfl (by kernel_rfl) rfl ?_
  unfold wpMid
  simp only [opsAt_nil, opsAt_cons, consOpt_some, List.getElem?_toArray, List.getElem?_cons_zero, List.getElem?_cons_succ]
  go_wp2
  have hb03 : Below W0.heap.size W0 (wd.alloc (.cells #[] 175)) := hbd.alloc hbd.size _
  have gq : (wd.alloc (.cells #[] 175)).heap[wd.heap.size]? = some (.cells #[] 175 (0, 0)) := by rw [heapq_alloc, if_pos rfl]
  have hg : W0.heap.size ≤ wd.heap.size := hbd.size
  generalize wd.alloc (.cells #[] 175) = w3 at *
  generalize wd.heap.size = g at *
  refine onlyNormal_mk ⟨⟨⟨_, hb03⟩, rfl⟩, ?_⟩
  refine wpE_one (i := 5) rfl (by kernel_rfl) rfl ?_
  unfold wpMid
  simp only [opsAt_nil, opsAt_cons, consOpt_some, List.getElem?_toArray, List.getElem?_cons_zero, List.getElem?_cons_succ]
  have hrd := h0.below (hb03.mono hBW)
  have hgl := lt_of_block gq
  refine wpList_append_copy w3 rfl _ _ 94 rfl g 175 i1 _ 3 24 Tryd.underlying94 hi1 hy0 hy1 hy2 rfl (by omega) g rfl gq (Nat.le_refl _) B A n c (rgCells l) rfl (by rw [rgCells_len, HL.out]) hrd (rgCells_one l) (by simp only [maxLen]; omega) (by omega) (Nat.le_of_lt hgl) ?_
  intro G cG w4 hown hgrow _
  have hb4 : Below W0.heap.size W0 w4 := hb03.grown hgrow hb03.size (fun k hk => by rw [← Option.some.inj hk]; exact hg)
  have hk4 := (hb4.block (x + 1) HX.out).trans K1.out
  have m4 : x + 1 ≠ G := ownBlk_ne hown rfl hk4 (by decide)
  have HOWN := Lib.hid hown
  refine onlyNormal_mk ⟨⟨⟨_, hb4⟩, rfl⟩, ?_⟩
  refine wpE_tail rfl (by kernel_rfl) ?_
  simp only [opsAt_nil, opsAt_cons, consOpt_some, List.getElem?_toArray, List.getElem?_cons_zero, List.getElem?_cons_succ]
  have t0 := cell_of_row w4 (x + 1) 0 _ _ _ hk4
  have t1 := cell_of_row w4 (x + 1) 1 _ _ _ hk4
  simp at t0 t1
  have q0 := frozen_of_row w4 (x + 1) 0 _ _ hk4
  have q1 := frozen_of_row w4 (x + 1) 1 _ _ hk4
  have HBE := Lib.hid (HB.out.trans (hb4.mono hs1))
  clear hrd hown hgrow hk4 gq
  go_wp2
  refine onlyNormal_mk ?_
  go_wp2
  refine bodyPost_ret (v := .agg #[.int .i64 bm, .slice (some ⟨G, 0, none⟩) n cG]) (by simp [results, Tryd.results63, go_sem, t0, t1]) rfl ⟨_, cG, rfl, ?_, ?_⟩
  · exact Rd_of_own (ownsRow_setCell_other (ownsRow_setCell_other HOWN.out (by simp [Value.ownBlock]; omega) _) (by simp [Value.ownBlock]; omega) _)
  · rw [HXX.out]
    exact (HBE.out.setCell (p := ⟨x + 1, 0, none⟩) (Nat.le_add_right x 1) _).setCell (p := ⟨x + 1, 1, none⟩) (Nat.le_add_right x 1) _

def recordB (n : Nat) : Bool := decide ((n : Int) ≤ 8) || (decide ((40 : Int) < (n : Int)) && decide ((n : Int) ≤ 42))

theorem record_any (w : World) (bm : Int) (A : Option Addr) (n c : Nat) (b : Bool) (hb : recordB n = b) :
    Calls Tryd.prog 61 #[.agg #[.int .i64 bm, .slice A n c]] w fun e w' => e = .returned (.bool b) ∧ Below w.heap.size w w' := by
  have hb0 : Below w.heap.size w (w.alloc (.cells #[.int .i64 bm, .slice A n c] 96)) := (Below.refl _ _).alloc (Nat.le_refl _) _
  have p1 : (n : Int) ≤ 8 ∨ (¬ (n : Int) ≤ 8 ∧ ¬ (40 : Int) < (n : Int)) ∨ (¬ (n : Int) ≤ 8 ∧ (40 : Int) < (n : Int) ∧ (n : Int) ≤ 42) ∨ (¬ (n : Int) ≤ 8 ∧ (40 : Int) < (n : Int) ∧ ¬ (n : Int) ≤ 42) := by omega
  rcases p1 with h1 | ⟨h1, h2⟩ | ⟨h1, h2, h3⟩ | ⟨h1, h2, h3⟩
  · have HV : Hid (b = true) := by rw [Hid, ← hb]; simp [recordB, h1]
    clear hb
    go_enter Tryd.func61, Tryd.ntmps61
    go_wp2
    go_ret
    exact ⟨by rw [HV.out]; rfl, hb0⟩
  · have HV : Hid (b = false) := by rw [Hid, ← hb]; simp [recordB, h1, h2]
    clear hb
    go_enter Tryd.func61, Tryd.ntmps61
    go_wp2
    go_ret
    exact ⟨by rw [HV.out]; rfl, hb0⟩
  · have HV : Hid (b = true) := by rw [Hid, ← hb]; simp [recordB, h1, h2, h3]
    clear hb
    go_enter Tryd.func61, Tryd.ntmps61
    go_wp2
    go_ret
    exact ⟨by rw [HV.out]; rfl, hb0⟩
  · have HV : Hid (b = false) := by rw [Hid, ← hb]; simp [recordB, h1, h2, h3]
    clear hb
    go_enter Tryd.func61, Tryd.ntmps61
    go_wp2
    go_ret
    exact ⟨by rw [HV.out]; rfl, hb0⟩

set_option maxRecDepth 100000 in
set_option maxHeartbeats 8000000 in
theorem RecordErr_any (w : World) (B : Nat) (bm : Int) (A : Option Addr) (n c : Nat) (l : List Rg) (hl : l.length = n) (h : Rd w B A (rgCells l)) (hB : B ≤ w.heap.size) :
    Calls Tryd.prog 65 #[.agg #[.int .i64 bm, .slice A n c]] w (ErrVal w (recM bm l)) := by
  have hb0 : Below w.heap.size w (w.alloc (.cells #[.int .i64 bm, .slice A n c] 96)) := (Below.refl _ _).alloc (Nat.le_refl _) _
  have h0 := h.below (hb0.mono hB)
  have k0 : (w.alloc (.cells #[.int .i64 bm, .slice A n c] 96)).heap[w.heap.size]? = some (.cells #[.int .i64 bm, .slice A n c] 96 (0, 0)) := by rw [heapq_alloc, if_pos rfl]
  have c0 : (w.alloc (.cells #[.int .i64 bm, .slice A n c] 96)).cell? ⟨w.heap.size, 0, none⟩ = some (.int .i64 bm) := (cell_of_row _ _ 0 _ _ _ k0).trans rfl
  have c1 : (w.alloc (.cells #[.int .i64 bm, .slice A n c] 96)).cell? ⟨w.heap.size, 1, none⟩ = some (.slice A n c) := (cell_of_row _ _ 1 _ _ _ k0).trans rfl
  have hs0 : w.heap.size ≤ (w.alloc (.cells #[.int .i64 bm, .slice A n c] 96)).heap.size := hb0.size
  have hB0 := Nat.le_trans hB hs0
  have HL := Lib.hid hl
  have HB := Lib.hid hb0
  clear h hl hb0 k0
  cases q0 : withinB bm 1 40 with
  | false =>
    have HV : Hid (recM bm l = 2) := by rw [Hid, recM, q0, if_neg (by decide)]
    have Q := fun W => Within_val bm 1 40 false q0 W
    clear q0
    go_enter Tryd.func65, Tryd.ntmps65
    go_upto_region 1 with (fail)
    generalize w.alloc (.cells #[.int .i64 bm, .slice A n c] 96) = w0 at *
    go_wp2_with (go_at_call 49; refine (Q _).mono ?_; rintro e w' ⟨rfl, rfl⟩)
    go_ret
    exact ⟨by rw [HV.out]; rfl, HB.out⟩
  | true =>
    have hbm : 1 ≤ bm ∧ bm ≤ 40 := by simpa [withinB] using q0
    obtain ⟨hbm0, hbm1⟩ := hbm
    have Q := fun W => Within_val bm 1 40 true q0 W
    by_cases hn40 : n ≤ 40
    · have HV : Hid (recM bm l = rdGo bm l) := by rw [Hid, recM, q0, if_pos rfl, if_pos (by rw [HL.out]; exact hn40)]
      have g1 : ¬ (40 : Int) < (n : Int) := by omega
      clear q0
      go_enter Tryd.func65, Tryd.ntmps65
      go_upto_region 1 with (fail)
      generalize w.alloc (.cells #[.int .i64 bm, .slice A n c] 96) = w0 at *
      go_wp2_with (go_at_call 49; refine (Q _).mono ?_; rintro e w' ⟨rfl, rfl⟩)
      clear Q
      go_loopw [3] (fun u wr => RecRel w0 bm l n (rdGo bm l) u wr) (fun u _ => n - (intOf u).toNat)
      case atStart => exact ⟨0, Nat.zero_le _, rfl, by simp, Below.refl _ _⟩
      case round =>
        obtain ⟨k, hk, rfl, hgo, hb⟩ := hrel
        have HBR := Lib.hid hb
        replace c0 := kept hb c0
        replace c1 := kept hb c1
        have hsz := hb.size
        have hr := h0.below (hb.mono hB0)
        clear hb h0
        by_cases hlt : k < n
        · have hkl : k < l.length := by rw [HL.out]; exact hlt
          obtain ⟨ev, hev⟩ : ∃ ev, l[k]? = some ev := ⟨_, List.getElem?_eq_getElem hkl⟩
          obtain ⟨z0, z1, z2⟩ := rgCells_at l k ev hev
          obtain ⟨bb, off, rfl, hbB, e0, e1, e2⟩ := hr.at3 z0 z1 z2
          rw [drop_cons' hev, rdGo] at hgo
          obtain ⟨f, td, wr_⟩ := ev
          simp only at e0 e1 e2
          have HGO := Lib.hid hgo
          have hba : Below wr.heap.size wr (wr.alloc (.cells #[.int .i64 f, .int .i64 td, .bool wr_] 175)) := (Below.refl _ _).alloc (Nat.le_refl _) _
          have HBK := Lib.hid (HBR.out.trans (hba.mono hsz))
          have HBF := Lib.hid (HB.out.trans (HBK.out.mono hs0))
          have kb : (wr.alloc (.cells #[.int .i64 f, .int .i64 td, .bool wr_] 175)).heap[wr.heap.size]? = some (.cells #[.int .i64 f, .int .i64 td, .bool wr_] 175 (0, 0)) := by rw [heapq_alloc, if_pos rfl]
          have m0 := (cell_of_row _ _ 0 _ _ _ kb).trans (by rfl : _ = some (.int .i64 f))
          have m1 := (cell_of_row _ _ 1 _ _ _ kb).trans (by rfl : _ = some (.int .i64 td))
          have c0' := kept hba c0
          have hsa := hba.size
          clear hba kb z0 z1 z2 hev hkl hr HBR hgo
          go_upto_region 9 with (fail)
          generalize wr.alloc (.cells #[.int .i64 f, .int .i64 td, .bool wr_] 175) = wa at *
          generalize wr.heap.size = zb at *
          have HRD : Hid (rdE bm (f, td, wr_) = if (withinB f 0 (bm - 1) && withinB td 0 (bm - 1)) = true then (if f ≤ td then 0 else 9) else 6) := rfl
          cases q1 : withinB f 0 (bm - 1) <;> cases q2 : withinB td 0 (bm - 1) <;> rcases Int.lt_or_le td f with q3 | q3
          all_goals
            have HQ : Hid (rdE bm (f, td, wr_) = _) := HRD.out
            rw [q1, q2] at HQ
            first
              | (have HG : Hid (rdGo bm (l.drop (k + 1)) = rdGo bm l) := by
                   have := HGO.out
                   rw [if_pos (HQ.out.trans ((if_pos (by decide)).trans (if_pos q3)))] at this
                   exact this
                 clear HQ HRD HGO
                 go_wp2_with (first | (go_at_call_of 49 (Value.int .i64 f); refine (Within_val _ _ _ _ q1 _).mono ?_; rintro e w' ⟨rfl, rfl⟩) | (go_at_call_of 49 (Value.int .i64 td); refine (Within_val _ _ _ _ q2 _).mono ?_; rintro e w' ⟨rfl, rfl⟩))
                 go_roundw
                 case rel => exact ⟨k + 1, by omega, by go_num, HG.out, HBK.out⟩
                 case measure => simp [intOf]; omega)
              | (have HG : Hid (rdGo bm l = 6) := by
                   have := HGO.out
                   have h6 : rdE bm (f, td, wr_) = 6 := HQ.out.trans (by rw [if_neg (by decide)])
                   rw [h6, if_neg (by decide)] at this
                   exact this.symm
                 clear HQ HRD HGO
                 go_wp2_with (first | (go_at_call_of 49 (Value.int .i64 f); refine (Within_val _ _ _ _ q1 _).mono ?_; rintro e w' ⟨rfl, rfl⟩) | (go_at_call_of 49 (Value.int .i64 td); refine (Within_val _ _ _ _ q2 _).mono ?_; rintro e w' ⟨rfl, rfl⟩))
                 go_ret
                 exact ⟨by rw [HV.out, HG.out]; rfl, HBF.out⟩)
              | (have HG : Hid (rdGo bm l = 9) := by
                   have := HGO.out
                   have h6 : rdE bm (f, td, wr_) = 9 := HQ.out.trans ((if_pos (by decide)).trans (if_neg (by omega)))
                   rw [h6, if_neg (by decide)] at this
                   exact this.symm
                 clear HQ HRD HGO
                 go_wp2_with (first | (go_at_call_of 49 (Value.int .i64 f); refine (Within_val _ _ _ _ q1 _).mono ?_; rintro e w' ⟨rfl, rfl⟩) | (go_at_call_of 49 (Value.int .i64 td); refine (Within_val _ _ _ _ q2 _).mono ?_; rintro e w' ⟨rfl, rfl⟩))
                 go_ret
                 exact ⟨by rw [HV.out, HG.out]; rfl, HBF.out⟩)
        · obtain rfl : k = n := by omega
          have hd : l.drop k = [] := by rw [List.drop_eq_nil_iff]; rw [HL.out]; exact Nat.le_refl _
          rw [hd] at hgo
          have HG : Hid (rdGo bm l = 0) := hgo.symm
          clear hgo hd
          go_wp2
          go_ret
          exact ⟨by rw [HV.out, HG.out]; rfl, HB.out.trans (HBR.out.mono hs0)⟩
    · have HV : Hid (recM bm l = 8) := by rw [Hid, recM, q0, if_pos rfl, if_neg (by rw [HL.out]; exact hn40)]
      have g1 : (40 : Int) < (n : Int) := by omega
      clear q0
      go_enter Tryd.func65, Tryd.ntmps65
      go_upto_region 1 with (fail)
      generalize w.alloc (.cells #[.int .i64 bm, .slice A n c] 96) = w0 at *
      go_wp2_with (go_at_call 49; refine (Q _).mono ?_; rintro e w' ⟨rfl, rfl⟩)
      go_ret
      exact ⟨by rw [HV.out]; rfl, HB.out⟩
end Go.Proofs.YtmcjnfghlpnghaaDoor

namespace Go.Proofs.YtmcjnfghlpnghaaDoor
open Go.RowKit

theorem hasI_cons (a : Int) (l : List Int) (x : Int) : hasI (a :: l) x = (a == x || hasI l x) := rfl

theorem Has_any (A : Option Addr) (n c B : Nat) (l : List Int) (x : Int) (w : World) (hn : n ≤ 1000000000) (hl : l.length = n) (h : Rd w B A (intCells l)) :
    Calls Tryd.prog 52 #[.slice A n c, .int .i64 x] w fun e w' => e = .returned (.bool (hasI l x)) ∧ w = w' := by
  have HL := Lib.hid hl; clear hl
  go_enter Tryd.func52, Tryd.ntmps52
  go_wp2
  go_loop [5] (fun i => ∃ k : Nat, k ≤ n ∧ i = .int .i64 k ∧ hasI (l.drop k) x = hasI l x) (fun i => n - (intOf i).toNat)
  case atStart => exact ⟨0, Nat.zero_le _, rfl, by simp⟩
  case round =>
    obtain ⟨k, hk, rfl, he⟩ := hrel
    have HE := Lib.hid he; clear he
    by_cases hlt : k < n
    · have hkl : k < l.length := by rw [HL.out]; exact hlt
      obtain ⟨b, off, rfl, _, hc⟩ := h.at_ (intCells_at l k hkl)
      have HS := Lib.hid (drop_at l 0 k hkl)
      clear hkl
      generalize l[k]?.getD 0 = q at *
      by_cases hz : q = x
      · subst hz
        have HZ : Hid (hasI l q = true) := by
          rw [Hid, ← HE.out, HS.out, hasI_cons, beq_self_eq_true, Bool.true_or]
        clear HE HS
        go_wp2
        go_ret
        exact ⟨by rw [HZ.out]; rfl, rfl⟩
      · have h1 : (q == x) = false := beq_eq_false_iff_ne.2 hz
        have HZ := Lib.hid h1
        clear hz
        go_wp2
        go_round
        case rel => exact ⟨k + 1, by omega, by go_num, by rw [← HE.out, HS.out, hasI_cons, HZ.out, Bool.false_or]⟩
        case measure => simp [intOf]; omega
    · go_wp2
      go_ret
      have : l.drop k = [] := by rw [List.drop_eq_nil_iff]; rw [HL.out]; omega
      exact ⟨by rw [← HE.out, this]; rfl, rfl⟩

set_option maxHeartbeats 2000000 in
theorem Ints_same (A1 A2 : Option Addr) (n c1 c2 B1 B2 : Nat) (l : List Int) (w : World) (hn : n ≤ 1000000000) (hl : l.length = n) (h1 : Rd w B1 A1 (intCells l)) (h2 : Rd w B2 A2 (intCells l)) (hB1 : B1 ≤ w.heap.size) (hB2 : B2 ≤ w.heap.size) :
    Calls Tryd.prog 50 #[.slice A1 n c1, .slice A2 n c2] w fun e w' => e = .returned (.bool true) ∧ Below w.heap.size w w' := by
  have HL := Lib.hid hl; clear hl
  go_enter Tryd.func50, Tryd.ntmps50
  go_wp2
  go_loopw [5] (fun i wr => ∃ k : Nat, k ≤ n ∧ i = .int .i64 k ∧ Below w.heap.size w wr) (fun i _ => n - (intOf i).toNat)
  case atStart => exact ⟨0, Nat.zero_le _, rfl, Below.refl _ _⟩
  case round =>
    obtain ⟨k, hk, rfl, hb⟩ := hrel
    by_cases hlt : k < n
    · have hkl : k < l.length := by rw [HL.out]; exact hlt
      obtain ⟨b, off, rfl, _, d1⟩ := (h1.below (hb.mono hB1)).at_ (intCells_at l k hkl)
      obtain ⟨b', off', rfl, _, d2⟩ := (h2.below (hb.mono hB2)).at_ (intCells_at l k hkl)
      have HBW := Lib.hid hb
      have hsz := hb.size
      clear hkl hb
      generalize l[k]?.getD 0 = q at *
      have e0 : (q != q) = false := by simp
      go_upto_region 6 with (fail)
      have x0 := fun y : Xt wr => y.cell d1
      have x1 := fun y : Xt wr => y.cell d2
      refine wp_region_xt (by kernel_rfl) (by kernel_rfl) ?_
      repeat (go_big_quiet_step (fail))
      refine wpQuiet_nil ?_
      intro w1 hx
      have hb1 := Xt.below hx
      clear hx x0 x1 d1 d2
      have HBN := Lib.hid (HBW.out.trans (hb1.mono hsz))
      clear hb1
      go_wp2
      go_roundw
      case rel => exact ⟨k + 1, by omega, by go_num, HBN.out⟩
      case measure => simp [intOf]; omega
    · go_wp2
      go_ret
      exact ⟨rfl, hb⟩

def GoodRel (w0 : World) (l : List Rg) (b : Int) (n : Nat) (tot : Bool) (v : Value) (S : List Int) (u5 u6 : Value) (wr : World) : Prop :=
  ∃ (j : Nat) (g : Bool), j ≤ n ∧ u6 = .int .i64 j ∧ u5 = .bool g ∧ (g || (l.drop j).any (goodB b)) = tot ∧ wr.ownsRow w0.heap.size 3 1 v S.length (intCells S) ∧ Below w0.heap.size w0 wr

set_option maxRecDepth 100000 in
set_option maxHeartbeats 8000000 in
theorem refSuspects_any (w : World) (B : Nat) (bm : Nat) (A : Option Addr) (n c : Nat) (l : List Rg) (hl : l.length = n) (h : Rd w B A (rgCells l)) (hB : B ≤ w.heap.size) (hn : n ≤ 40) (hbm : bm ≤ 40) :
    Calls Tryd.prog 66 #[.agg #[.int .i64 bm, .slice A n c]] w (IntsPost w (suspK l bm) (suspK l bm).length) := by
  obtain ⟨i1, hi1, hy0, hy1, hy2⟩ := info_parts info3
  have hb0 : Below w.heap.size w (w.alloc (.cells #[.int .i64 (bm : Int), .slice A n c] 96)) := (Below.refl _ _).alloc (Nat.le_refl _) _
  have h0 := h.below (hb0.mono hB)
  have k0 : (w.alloc (.cells #[.int .i64 (bm : Int), .slice A n c] 96)).heap[w.heap.size]? = some (.cells #[.int .i64 (bm : Int), .slice A n c] 96 (0, 0)) := by rw [heapq_alloc, if_pos rfl]
  have c0 : (w.alloc (.cells #[.int .i64 (bm : Int), .slice A n c] 96)).cell? ⟨w.heap.size, 0, none⟩ = some (.int .i64 (bm : Int)) := (cell_of_row _ _ 0 _ _ _ k0).trans rfl
  have c1 : (w.alloc (.cells #[.int .i64 (bm : Int), .slice A n c] 96)).cell? ⟨w.heap.size, 1, none⟩ = some (.slice A n c) := (cell_of_row _ _ 1 _ _ _ k0).trans rfl
  have hs0 : w.heap.size ≤ (w.alloc (.cells #[.int .i64 (bm : Int), .slice A n c] 96)).heap.size := hb0.size
  have hB0 := Nat.le_trans hB hs0
  have HL := Lib.hid hl
  have HB := Lib.hid hb0
  clear h hl hb0 k0
  go_enter Tryd.func66, Tryd.ntmps66
  go_upto_region 1 with (fail)
  generalize w.alloc (.cells #[.int .i64 (bm : Int), .slice A n c] 96) = w0 at *
  have c0_ := c0
  have c1_ := c1
  have h0_ := h0
  have C0 := Lib.hid c0
  have C1 := Lib.hid c1
  clear c0_ c1_ h0_
  go_wp2
  go_loopw [3, 4] (fun u3 u4 wr => SuspRel w0 l bm u3 u4 wr) (fun _ u4 _ => bm - (intOf u4).toNat)
  case atStart => exact ⟨0, Nat.zero_le _, rfl, ⟨rfl, .inl ⟨rfl, rfl⟩⟩, Below.refl _ _⟩
  case round =>
    obtain ⟨k, hk, rfl, hown, hb⟩ := hrel
    have HOWN := Lib.hid hown
    obtain ⟨Au, cu, rfl⟩ := rowForm hown
    have HBW := Lib.hid hb
    have hsz := hb.size
    replace c0 := kept hb c0
    replace c1 := kept hb c1
    have hr := h0.below (hb.mono hB0)
    have hB1 := Nat.le_trans hB0 hsz
    have hl41 := suspK_len l k
    clear hb hown
    by_cases hlt : k < bm
    · obtain ⟨tot, htot⟩ : ∃ b, l.any (goodB (k : Int)) = b := ⟨_, rfl⟩
      have HTOT := Lib.hid htot
      clear htot
      go_wp2
      go_loopw [5, 6] (fun u5 u6 wr => GoodRel w0 l (k : Int) n tot (.slice Au (suspK l k).length cu) (suspK l k) u5 u6 wr) (fun _ u6 _ => n - (intOf u6).toNat)
      case atStart => exact ⟨0, false, Nat.zero_le _, rfl, rfl, by rw [Bool.false_or, List.drop_zero]; exact HTOT.out, HOWN.out, HBW.out⟩
      case round =>
        clear HOWN HBW hsz c0 hr hB1
        obtain ⟨j, g, hj, rfl, rfl, hg, hown, hb⟩ := hrel
        have HOWN := Lib.hid hown
        have HBJ := Lib.hid hb
        have c0' := kept hb C0.out
        have c1' := kept hb C1.out
        have hsj := hb.size
        have hrj := h0.below (hb.mono hB0)
        have HG := Lib.hid hg
        clear hb hg hown c1
        by_cases hjn : j < n
        · have hjl : j < l.length := by rw [HL.out]; exact hjn
          obtain ⟨ev, hev⟩ : ∃ ev, l[j]? = some ev := ⟨_, List.getElem?_eq_getElem hjl⟩
          obtain ⟨z0, z1, z2⟩ := rgCells_at l j ev hev
          obtain ⟨bb, off, rfl, hbB, e0, e1, e2⟩ := hrj.at3 z0 z1 z2
          have HD := Lib.hid (drop_cons' hev)
          obtain ⟨f, td, wr_⟩ := ev
          simp only at e0 e1 e2
          have hba : Below wr.heap.size wr (wr.alloc (.cells #[.int .i64 f, .int .i64 td, .bool wr_] 175)) := (Below.refl _ _).alloc (Nat.le_refl _) _
          have HBK := Lib.hid (HBJ.out.trans (hba.mono hsj))
          have HOWK := Lib.hid (ownsRow_below HOWN.out hba)
          have kb : (wr.alloc (.cells #[.int .i64 f, .int .i64 td, .bool wr_] 175)).heap[wr.heap.size]? = some (.cells #[.int .i64 f, .int .i64 td, .bool wr_] 175 (0, 0)) := by rw [heapq_alloc, if_pos rfl]
          have m0 := (cell_of_row _ _ 0 _ _ _ kb).trans (by rfl : _ = some (.int .i64 f))
          have m1 := (cell_of_row _ _ 1 _ _ _ kb).trans (by rfl : _ = some (.int .i64 td))
          have m2 := (cell_of_row _ _ 2 _ _ _ kb).trans (by rfl : _ = some (.bool wr_))
          clear hba kb z0 z1 z2 hev hjl hrj HBJ HOWN
          go_upto_region 10 with (fail)
          generalize wr.alloc (.cells #[.int .i64 f, .int .i64 td, .bool wr_] 175) = wa at *
          generalize wr.heap.size = zb at *
          cases g with
          | true =>
            have HT : Hid ((true || (l.drop (j + 1)).any (goodB (k : Int))) = tot) := HG.out
            clear HG HD
            go_wp2
            go_roundw
            case rel => exact ⟨j + 1, true, by omega, by go_num, rfl, HT.out, HOWK.out, HBK.out⟩
            case measure => simp [intOf]; omega
          | false =>
            cases wr_ with
            | true =>
              have HT : Hid ((false || (l.drop (j + 1)).any (goodB (k : Int))) = tot) := by
                have := HG.out
                rw [HD.out, List.any_cons] at this
                exact this
              clear HG HD
              go_wp2
              go_roundw
              case rel => exact ⟨j + 1, false, by omega, by go_num, rfl, HT.out, HOWK.out, HBK.out⟩
              case measure => simp [intOf]; omega
            | false =>
              cases hq : withinB (k : Int) f td
              all_goals
                have HQ := Lib.hid hq
                have HT : Hid ((withinB (k : Int) f td || (l.drop (j + 1)).any (goodB (k : Int))) = tot) := by
                  have := HG.out
                  rw [HD.out, List.any_cons] at this
                  exact this
                rw [hq] at HT
                clear HG HD
                go_wp2_with (go_at_call 49; refine (Within_val _ _ _ _ hq _).mono ?_; rintro e w' ⟨rfl, rfl⟩)
                go_roundw
                case rel => exact ⟨j + 1, _, by omega, by go_num, rfl, HT.out, HOWK.out, HBK.out⟩
                case measure => simp [intOf]; omega
        · obtain rfl : j = n := by omega
          have hd : l.drop j = [] := by rw [List.drop_eq_nil_iff]; rw [HL.out]; exact Nat.le_refl _
          have HT : Hid (g = tot) := by
            have := HG.out
            rw [hd, List.any_nil, Bool.or_false] at this
            exact this
          clear hd HG hrj
          cases g with
          | true =>
            have HK := Lib.hid (suspK_no (HTOT.out.trans HT.out.symm))
            go_wp2
            go_roundw
            case rel => exact ⟨k + 1, by omega, by go_num, by rw [HK.out]; exact HOWN.out, HBJ.out⟩
            case measure => simp [intOf]; omega
          | false =>
            have HK := Lib.hid (suspK_yes (HTOT.out.trans HT.out.symm))
            go_wp2_with (at_builtin; refine stp ?_)
            unfold Stp
            refine wpList_append_lies _ rfl _ _ 39 rfl w0.heap.size 3 i1 _ 1 8 Tryd.underlying39 hi1 hy0 hy1 hy2 rfl (by omega) (.slice Au (suspK l k).length cu) (suspK l k).length (intCells (suspK l k)) rfl (HOWN.out.alloc _) ⟨wr.heap.size, 0, none⟩ 1 1 [.int .i64 (k : Int)] rfl rfl (news1 (by simp)) (by simp [Value.oneCell']) (by omega) (by simp only [maxLen]; omega) (by omega) (by simp; omega) _ rfl ?_
            intro gg cap w3 hown1 hgrow hat hlt9
            have hb9 : Below w0.heap.size w0 w3 := (HBJ.out.alloc hsj _).grown hgrow (by simp; omega) (fun k hk => (ownBlk HOWN.out hk).1)
            have HOWN1 := Lib.hid hown1
            have HB9 := Lib.hid hb9
            clear hown1 hgrow hat hlt9 hb9
            go_wp2
            go_roundw
            case rel => exact ⟨k + 1, by omega, by go_num, (by rw [HK.out]; simpa [intCells] using HOWN1.out), HB9.out⟩
            case measure => simp [intOf]; omega
    · obtain rfl : k = bm := by omega
      go_wp2
      go_ret
      exact ⟨_, _, rfl, rd_own HOWN.out, HB.out.trans (HBW.out.mono hs0)⟩
end Go.Proofs.YtmcjnfghlpnghaaDoor

namespace Go.Proofs.YtmcjnfghlpnghaaDoor
open Go.RowKit

def OverRel (w0 : World) (f td : Int) (bs : List Int) (n2 : Nat) (tot : Bool) (u7 u8 : Value) (wr : World) : Prop :=
  ∃ (j : Nat) (g : Bool), j ≤ n2 ∧ u8 = .int .i64 j ∧ u7 = .bool g ∧ (g || (bs.drop j).any fun n => withinB n f td) = tot ∧ Below w0.heap.size w0 wr
def ExplRel (w0 : World) (l : List Rg) (bs : List Int) (n : Nat) (tot : Bool) (u5 : Value) (wr : World) : Prop :=
  ∃ i : Nat, i ≤ n ∧ u5 = .int .i64 i ∧ (l.drop i).any (missB bs) = tot ∧ Below w0.heap.size w0 wr

set_option maxRecDepth 100000 in
set_option maxHeartbeats 8000000 in
theorem explained_any (w : World) (B : Nat) (bm : Int) (A A2 : Option Addr) (n c n2 c2 : Nat) (l : List Rg) (bs : List Int) (hl : l.length = n) (hl2 : bs.length = n2) (h : Rd w B A (rgCells l)) (h2 : Rd w B A2 (intCells bs)) (hB : B ≤ w.heap.size) (hn : n ≤ 1000000000) (hn2 : n2 ≤ 1000000000) :
    Calls Tryd.prog 123 #[.agg #[.int .i64 bm, .slice A n c], .slice A2 n2 c2] w fun e w' => e = .returned (.bool (!l.any (missB bs))) ∧ Below w.heap.size w w' := by
  have hb0 : Below w.heap.size w (w.alloc (.cells #[.int .i64 bm, .slice A n c] 96)) := (Below.refl _ _).alloc (Nat.le_refl _) _
  have h0 := h.below (hb0.mono hB)
  have h20 := h2.below (hb0.mono hB)
  have k0 : (w.alloc (.cells #[.int .i64 bm, .slice A n c] 96)).heap[w.heap.size]? = some (.cells #[.int .i64 bm, .slice A n c] 96 (0, 0)) := by rw [heapq_alloc, if_pos rfl]
  have c1 : (w.alloc (.cells #[.int .i64 bm, .slice A n c] 96)).cell? ⟨w.heap.size, 1, none⟩ = some (.slice A n c) := (cell_of_row _ _ 1 _ _ _ k0).trans rfl
  have hs0 := hb0.size
  have hB0 := Nat.le_trans hB hs0
  have HL := Lib.hid hl
  have HL2 := Lib.hid hl2
  have HB := Lib.hid hb0
  obtain ⟨tot, htot⟩ : ∃ b, l.any (missB bs) = b := ⟨_, rfl⟩
  rw [htot]
  have HTOT := Lib.hid htot
  clear h h2 hl hl2 hb0 k0 htot
  go_enter Tryd.func123, Tryd.ntmps123
  go_upto_region 1 with (fail)
  generalize w.alloc (.cells #[.int .i64 bm, .slice A n c] 96) = w0 at *
  have C1 := Lib.hid c1
  go_wp2
  go_loopw [5] (fun u5 wr => ExplRel w0 l bs n tot u5 wr) (fun u5 _ => n - (intOf u5).toNat)
  case atStart => exact ⟨0, Nat.zero_le _, rfl, by rw [List.drop_zero]; exact HTOT.out, Below.refl _ _⟩
  case round =>
    obtain ⟨i, hi, rfl, hany, hb⟩ := hrel
    have HANY := Lib.hid hany
    have HBI := Lib.hid hb
    replace c1 := kept hb c1
    have hsi := hb.size
    have hr := h0.below (hb.mono hB0)
    clear hb hany
    by_cases hin : i < n
    · have hil : i < l.length := by rw [HL.out]; exact hin
      obtain ⟨ev, hev⟩ : ∃ ev, l[i]? = some ev := ⟨_, List.getElem?_eq_getElem hil⟩
      obtain ⟨z0, z1, z2⟩ := rgCells_at l i ev hev
      obtain ⟨bb, off, rfl, hbB, e0, e1, e2⟩ := hr.at3 z0 z1 z2
      have HD := Lib.hid (drop_cons' hev)
      obtain ⟨f, td, wr_⟩ := ev
      simp only at e0 e1 e2
      have hba : Below wr.heap.size wr (wr.alloc (.cells #[.int .i64 f, .int .i64 td, .bool wr_] 175)) := (Below.refl _ _).alloc (Nat.le_refl _) _
      have HBK := Lib.hid (HBI.out.trans (hba.mono hsi))
      have kb : (wr.alloc (.cells #[.int .i64 f, .int .i64 td, .bool wr_] 175)).heap[wr.heap.size]? = some (.cells #[.int .i64 f, .int .i64 td, .bool wr_] 175 (0, 0)) := by rw [heapq_alloc, if_pos rfl]
      have m0 := (cell_of_row _ _ 0 _ _ _ kb).trans (by rfl : _ = some (.int .i64 f))
      have m1 := (cell_of_row _ _ 1 _ _ _ kb).trans (by rfl : _ = some (.int .i64 td))
      have m2 := (cell_of_row _ _ 2 _ _ _ kb).trans (by rfl : _ = some (.bool wr_))
      have hsa := Nat.le_trans hsi hba.size
      clear hba kb z0 z1 z2 hev hil hr HBI
      go_upto_region 5 with (fail)
      generalize wr.alloc (.cells #[.int .i64 f, .int .i64 td, .bool wr_] 175) = wa at *
      generalize wr.heap.size = zb at *
      obtain ⟨ti, hti⟩ : ∃ b, (!wr_ || bs.any fun n => withinB n f td) = b := ⟨_, rfl⟩
      have HTI := Lib.hid hti
      have HMI : Hid (missB bs (f, td, wr_) = !ti) := by
        rw [Hid, ← hti, missB]
        simp
      clear hti
      have M0 := Lib.hid m0
      have M1 := Lib.hid m1
      go_wp2
      go_loopw [7, 8] (fun u7 u8 wr => OverRel wa f td bs n2 ti u7 u8 wr) (fun _ u8 _ => n2 - (intOf u8).toNat)
      case atStart => exact ⟨0, !wr_, Nat.zero_le _, rfl, rfl, by rw [List.drop_zero]; exact HTI.out, Below.refl _ _⟩
      case round =>
        obtain ⟨j, g, hj, rfl, rfl, hg, hb⟩ := hrel
        have HG := Lib.hid hg
        have HBJ := Lib.hid hb
        have m0' := kept hb M0.out
        have m1' := kept hb M1.out
        have hsj := hb.size
        have h2r := h20.below ((HBK.out.trans (hb.mono hsa)).mono hB0)
        clear hb hg m0 m1 m2 c1
        by_cases hjn : j < n2
        · have hjl : j < bs.length := by rw [HL2.out]; exact hjn
          obtain ⟨b2, off2, rfl, _, d1⟩ := h2r.at_ (k := j) (u := .int .i64 (bs[j]?.getD 0)) (intCells_at bs j hjl)
          have HS := Lib.hid (drop_at bs 0 j hjl)
          generalize bs[j]?.getD 0 = q at *
          clear hjl h2r
          go_upto_region 9 with (fail)
          have x0 := fun y : Xt wr => y.cell d1
          have x1 := fun y : Xt wr => y.cell m0'
          have x2 := fun y : Xt wr => y.cell m1'
          cases g with
          | true =>
            have HT : Hid ((true || (bs.drop (j + 1)).any fun n => withinB n f td) = ti) := HG.out
            clear HG HS
            refine wp_region_xt (by kernel_rfl) (by kernel_rfl) ?_
            repeat (go_big_quiet_step (fail))
            refine wpQuiet_nil ?_
            intro w1 hx
            have hb1 := Xt.below hx
            clear hx x0 x1 x2 d1 m0' m1'
            have HBN := Lib.hid (HBJ.out.trans (hb1.mono hsj))
            clear hb1
            go_wp2
            go_roundw
            case rel => exact ⟨j + 1, true, by omega, by go_num, rfl, HT.out, HBN.out⟩
            case measure => simp [intOf]; omega
          | false =>
            cases hq : withinB q f td
            all_goals
              have HT : Hid ((withinB q f td || (bs.drop (j + 1)).any fun n => withinB n f td) = ti) := by
                have := HG.out
                rw [HS.out, List.any_cons] at this
                exact this
              rw [hq] at HT
              clear HG HS
              refine wp_region_xt (by kernel_rfl) (by kernel_rfl) ?_
              repeat (go_big_quiet_step ((go_at_call 49; exact Xt.calls_same (Within_val _ _ _ _ hq _))))
              refine wpQuiet_nil ?_
              intro w1 hx
              have hb1 := Xt.below hx
              clear hx x0 x1 x2 d1 m0' m1' hq
              have HBN := Lib.hid (HBJ.out.trans (hb1.mono hsj))
              clear hb1
              go_wp2
              go_roundw
              case rel => exact ⟨j + 1, _, by omega, by go_num, rfl, HT.out, HBN.out⟩
              case measure => simp [intOf]; omega
        · obtain rfl : j = n2 := by omega
          have hd : bs.drop j = [] := by rw [List.drop_eq_nil_iff]; rw [HL2.out]; exact Nat.le_refl _
          have HT : Hid (g = ti) := by
            have := HG.out
            rw [hd, List.any_nil, Bool.or_false] at this
            exact this
          have HBE := Lib.hid (HBK.out.trans (HBJ.out.mono hsa))
          clear hd HG h2r
          cases g with
          | true =>
            have HA : Hid ((l.drop (i + 1)).any (missB bs) = tot) := by
              have := HANY.out
              rw [HD.out, List.any_cons, HMI.out, ← HT.out] at this
              exact this
            clear HANY HD HMI
            go_wp2
            go_roundw
            case rel => exact ⟨i + 1, by omega, by go_num, HA.out, HBE.out⟩
            case measure => simp [intOf]; omega
          | false =>
            have HA : Hid (tot = true) := by
              have := HANY.out
              rw [HD.out, List.any_cons, HMI.out, ← HT.out] at this
              exact this.symm
            clear HANY HD HMI
            go_wp2
            go_ret
            exact ⟨by rw [HA.out]; rfl, HB.out.trans (HBE.out.mono hs0)⟩
    · obtain rfl : i = n := by omega
      have hd : l.drop i = [] := by rw [List.drop_eq_nil_iff]; rw [HL.out]; exact Nat.le_refl _
      have HA : Hid (tot = false) := by
        have := HANY.out
        rw [hd, List.any_nil] at this
        exact this.symm
      clear hd HANY
      go_wp2
      go_ret
      exact ⟨by rw [HA.out]; rfl, HB.out.trans (HBI.out.mono hs0)⟩
end Go.Proofs.YtmcjnfghlpnghaaDoor

namespace Go.Proofs.YtmcjnfghlpnghaaDoor
open Go.RowKit

/-- the error of a beam behind another one -/
def fE (bm : Int) (S : List Int) (x last : Int) : Int := firstE [unlessE (withinB x 0 (bm - 1)) 6, unlessE (decide (last < x)) 9, unlessE (hasI S x) 13]
def faultGo (bm : Int) (S : List Int) : List Int → Int → Int
  | [], _ => 0
  | x :: l, last => if fE bm S x last = 0 then faultGo bm S l x else fE bm S x last
/-- the error of beams that explain a right record -/
def faultsM (bm : Int) (l : List Rg) (S bs : List Int) : Int := if faultGo bm S bs (-1) = 0 then (if l.any (missB bs) = true then 14 else 0) else faultGo bm S bs (-1)

/-- how many beams explain it -/
def faultN (n2 : Nat) (E : Int) : Int := if E = 0 then (n2 : Int) else 0

def FaultRel (w0 : World) (bm : Int) (S bs : List Int) (n2 : Nat) (tot : Int) (u8 u21 : Value) (wr : World) : Prop :=
  ∃ (k : Nat) (last : Int), k ≤ n2 ∧ u21 = .int .i64 k ∧ u8 = .int .i64 last ∧ faultGo bm S (bs.drop k) last = tot ∧ -1 ≤ last ∧ last ≤ 1000 ∧ Below w0.heap.size w0 wr

set_option maxHeartbeats 2000000 in
theorem CheckFaults_no (w : World) (B : Nat) (bm : Int) (A A2 : Option Addr) (n c n2 c2 : Nat) (l : List Rg) (hl : l.length = n) (h : Rd w B A (rgCells l)) (hB : B ≤ w.heap.size) (hn : n ≤ 1000000000) (h0 : recM bm l ≠ 0) :
    Calls Tryd.prog 64 #[.agg #[.int .i64 bm, .slice A n c], .slice A2 n2 c2] w (LeastPost w 0 (recM bm l)) := by
  have hb0 : Below w.heap.size w (w.alloc (.cells #[.int .i64 bm, .slice A n c] 96)) := (Below.refl _ _).alloc (Nat.le_refl _) _
  have k0 : (w.alloc (.cells #[.int .i64 bm, .slice A n c] 96)).heap[w.heap.size]? = some (.cells #[.int .i64 bm, .slice A n c] 96 (0, 0)) := by rw [heapq_alloc, if_pos rfl]
  have c0 : (w.alloc (.cells #[.int .i64 bm, .slice A n c] 96)).cell? ⟨w.heap.size, 0, none⟩ = some (.int .i64 bm) := (cell_of_row _ _ 0 _ _ _ k0).trans rfl
  have c1 : (w.alloc (.cells #[.int .i64 bm, .slice A n c] 96)).cell? ⟨w.heap.size, 1, none⟩ = some (.slice A n c) := (cell_of_row _ _ 1 _ _ _ k0).trans rfl
  have R := recordErr_any (w.alloc (.cells #[.int .i64 bm, .slice A n c] 96)) B bm A n c l hl (h.below (hb0.mono hB)) (Nat.le_trans hB hb0.size) hn
  unfold ErrVal at R
  have e1 : (recM bm l != 0) = true := bne_iff_ne.2 h0
  have HB := Lib.hid hb0
  have hs0 := hb0.size
  generalize recM bm l = er at *
  clear h hl hb0 k0 h0
  go_enter Tryd.func64, Tryd.ntmps64
  go_upto_region 1 with (fail)
  generalize w.alloc (.cells #[.int .i64 bm, .slice A n c] 96) = w0 at *
  go_wp2_with (go_at_call 119; refine R.mono ?_; rintro e w1 ⟨rfl, hb1⟩)
  go_ret2
  exact ⟨rfl, HB.out.trans (hb1.mono hs0)⟩

set_option maxRecDepth 100000 in
set_option maxHeartbeats 8000000 in
theorem CheckFaults_yes (w : World) (B : Nat) (bm : Nat) (A A2 : Option Addr) (n c n2 c2 : Nat) (l : List Rg) (bs : List Int) (hl : l.length = n) (hl2 : bs.length = n2) (h : Rd w B A (rgCells l)) (h2 : Rd w B A2 (intCells bs)) (hB : B ≤ w.heap.size) (hn2 : n2 ≤ 1000000000) (h0 : recM bm l = 0) (E : Int) (hE : faultsM bm l (suspK l bm) bs = E) :
    Calls Tryd.prog 64 #[.agg #[.int .i64 bm, .slice A n c], .slice A2 n2 c2] w (LeastPost w (faultN n2 E) E) := by
  obtain ⟨r1, r2, r3⟩ := recM_zero h0
  rw [hl] at r3
  have hb0 : Below w.heap.size w (w.alloc (.cells #[.int .i64 (bm : Int), .slice A n c] 96)) := (Below.refl _ _).alloc (Nat.le_refl _) _
  have hr0 := h.below (hb0.mono hB)
  have h20 := h2.below (hb0.mono hB)
  have k0 : (w.alloc (.cells #[.int .i64 (bm : Int), .slice A n c] 96)).heap[w.heap.size]? = some (.cells #[.int .i64 (bm : Int), .slice A n c] 96 (0, 0)) := by rw [heapq_alloc, if_pos rfl]
  have c0 : (w.alloc (.cells #[.int .i64 (bm : Int), .slice A n c] 96)).cell? ⟨w.heap.size, 0, none⟩ = some (.int .i64 (bm : Int)) := (cell_of_row _ _ 0 _ _ _ k0).trans rfl
  have c1 : (w.alloc (.cells #[.int .i64 (bm : Int), .slice A n c] 96)).cell? ⟨w.heap.size, 1, none⟩ = some (.slice A n c) := (cell_of_row _ _ 1 _ _ _ k0).trans rfl
  have hs0 := hb0.size
  have hB0 := Nat.le_trans hB hs0
  have R := recordErr_any (w.alloc (.cells #[.int .i64 (bm : Int), .slice A n c] 96)) B bm A n c l hl hr0 hB0 (by omega)
  unfold ErrVal at R
  rw [h0] at R
  have HL := Lib.hid hl
  have HL2 := Lib.hid hl2
  have HB := Lib.hid hb0
  have HE := Lib.hid hE
  clear h h2 hl hl2 hb0 k0 h0 hE
  go_enter Tryd.func64, Tryd.ntmps64
  go_upto_region 1 with (fail)
  generalize w.alloc (.cells #[.int .i64 (bm : Int), .slice A n c] 96) = w0 at *
  go_upto_region 2 with (go_at_call 119; refine R.mono ?_; rintro e w1 ⟨rfl, hb1⟩)
  replace c0 := kept hb1 c0
  replace c1 := kept hb1 c1
  replace hr0 := hr0.below (hb1.mono hB0)
  replace h20 := h20.below (hb1.mono hB0)
  replace HB := Lib.hid (HB.out.trans (hb1.mono hs0))
  replace hs0 := Nat.le_trans hs0 hb1.size
  replace hB0 := Nat.le_trans hB0 hb1.size
  clear hb1 R
  have S := suspects_any w1 B bm A n c l HL.out hr0 hB0 r3 (by omega)
  have hS40 : (suspK l bm).length ≤ 40 := Nat.le_trans (suspK_len l bm) (by omega)
  generalize suspK l bm = L at *
  go_upto_region 5 with (go_at_call 120; refine S.mono ?_; rintro e w2 ⟨A3, c3, rfl, h3, hb1⟩)
  replace c0 := kept hb1 c0
  replace c1 := kept hb1 c1
  replace hr0 := hr0.below (hb1.mono hB0)
  replace h20 := h20.below (hb1.mono hB0)
  replace HB := Lib.hid (HB.out.trans (hb1.mono hs0))
  replace hs0 := Nat.le_trans hs0 hb1.size
  replace hB0 := Nat.le_trans hB0 hb1.size
  clear hb1 S
  have C0 := Lib.hid c0
  have C1 := Lib.hid c1
  obtain ⟨tot, htot⟩ : ∃ t, faultGo bm L bs (-1) = t := ⟨_, rfl⟩
  have HTOT := Lib.hid htot
  clear htot
  go_wp2
  go_loopw [8, 21] (fun u8 u21 wr => FaultRel w2 bm L bs n2 tot u8 u21 wr) (fun _ u21 _ => n2 - (intOf u21).toNat)
  case atStart => exact ⟨0, -1, Nat.zero_le _, rfl, rfl, by rw [List.drop_zero]; exact HTOT.out, by omega, by omega, Below.refl _ _⟩
  case round =>
    clear c0 c1
    obtain ⟨k, last, hk, rfl, rfl, hgo, g0, g1, hb⟩ := hrel
    have HGO := Lib.hid hgo
    have HBK := Lib.hid hb
    have c0 := kept hb C0.out
    have c1 := kept hb C1.out
    have hsk := hb.size
    have h2r := h20.below (hb.mono hB0)
    have h3r := h3.below hb
    have hr := hr0.below (hb.mono hB0)
    clear hb hgo
    by_cases hkn : k < n2
    · have hkl : k < bs.length := by rw [HL2.out]; exact hkn
      obtain ⟨b2, off2, rfl, _, d1⟩ := h2r.at_ (k := k) (u := .int .i64 (bs[k]?.getD 0)) (intCells_at bs k hkl)
      have HS := Lib.hid (drop_at bs 0 k hkl)
      generalize bs[k]?.getD 0 = q at *
      have CT := Contains_any A3 L.length c3 w2.heap.size L q wr (by omega) rfl h3r
      have W9 := fun W => within_any q 0 ((bm : Int) - 1) W
      have U := fun (b : Bool) (e : Int) (W : World) => unless_any b e W
      have F3 := fun a b c => first3 wr a b c
      obtain ⟨er, her⟩ : ∃ er, er = fE bm L q last := ⟨_, rfl⟩
      have HER := Lib.hid her
      have HQ : Hid (er = 0 → 0 ≤ q ∧ q ≤ 1000) := fun h => by
        rw [her] at h
        unfold fE at h
        simp only [firstE_cons, firstE_nil, and_true] at h
        have := h.1
        rw [unlessE_zero (by omega)] at this
        simp only [withinB, Bool.and_eq_true, decide_eq_true_eq] at this
        omega
      have hbX : Below wr.heap.size wr (wr.alloc (.cells #[.int .i64 (unlessE (withinB q 0 ((bm : Int) - 1)) 6), .int .i64 (unlessE (decide (last < q)) 9), .int .i64 (unlessE (hasI L q) 13)] 29)) := (Below.refl _ _).alloc (Nat.le_refl _) _
      have HBX := Lib.hid (HBK.out.trans (hbX.mono hsk))
      clear hbX her hkl h2r h3r hr c1
      go_upto_region 9 with (first | (go_at_call 99; refine (W9 _).mono ?_; rintro e w' ⟨rfl, rfl⟩) | (go_at_call 92; refine (U _ _ _).mono ?_; rintro e w' ⟨rfl, rfl⟩) | (go_at_call 121; refine CT.mono ?_; rintro e w' ⟨rfl, rfl⟩) | (go_at_call 91; refine (F3 _ _ _).mono ?_; rintro e w' ⟨rfl, rfl⟩))
      have e1 : firstE [unlessE (withinB q 0 ((bm : Int) - 1)) 6, unlessE (decide (last < q)) 9, unlessE (hasI L q) 13] = er := HER.out.symm
      rw [e1]
      generalize wr.alloc (.cells #[.int .i64 (unlessE (withinB q 0 ((bm : Int) - 1)) 6), .int .i64 (unlessE (decide (last < q)) 9), .int .i64 (unlessE (hasI L q) 13)] 29) = w4 at *
      clear e1 CT W9 U F3 d1 c0
      by_cases he0 : er = 0
      · have e2 : (er != 0) = false := by rw [he0]; rfl
        obtain ⟨q0, q1⟩ := HQ.out he0
        have HG : Hid (faultGo bm L (bs.drop (k + 1)) q = tot) := by
          have := HGO.out
          rw [HS.out, faultGo, ← HER.out, if_pos he0] at this
          exact this
        clear he0
        go_wp2
        go_roundw
        case rel => exact ⟨k + 1, q, by omega, by go_num, rfl, HG.out, by omega, by omega, HBX.out⟩
        case measure => simp [intOf]; omega
      · have e2 : (er != 0) = true := bne_iff_ne.2 he0
        have HG : Hid (tot = er) := by
          have := HGO.out
          rw [HS.out, faultGo, ← HER.out, if_neg he0] at this
          exact this.symm
        have HV : Hid (E = er) := by
          rw [Hid, ← HE.out, faultsM, HTOT.out, HG.out, if_neg he0]
        have HV2 : Hid (faultN n2 E = 0) := by
          rw [Hid, faultN, HV.out, if_neg he0]
        clear he0
        go_wp2
        go_ret2
        exact ⟨by rw [HV2.out, HV.out]; rfl, HB.out.trans (HBX.out.mono hs0)⟩
    · obtain rfl : k = n2 := by omega
      have hd : bs.drop k = [] := by rw [List.drop_eq_nil_iff]; rw [HL2.out]; exact Nat.le_refl _
      have HT : Hid (tot = 0) := by
        have := HGO.out
        rw [hd] at this
        exact this.symm
      have X := explains_any wr B bm A A2 n c k c2 l bs HL.out HL2.out hr h2r (Nat.le_trans hB0 hsk) (by omega) hn2
      have HV : Hid (E = if l.any (missB bs) = true then 14 else 0) := by
        rw [Hid, ← HE.out, faultsM, HTOT.out, HT.out, if_pos rfl]
      clear hd HGO h2r h3r hr
      cases hx : l.any (missB bs) with
      | true =>
        rw [hx] at X HV
        have HV2 : Hid (E = 14) := HV.out
        have HV3 : Hid (faultN k E = 0) := by rw [Hid, HV2.out]; rfl
        clear hx HV
        go_wp2_with (go_at_call 122; refine X.mono ?_; rintro e w3 ⟨rfl, hb3⟩)
        go_ret2
        exact ⟨by rw [HV3.out, HV2.out]; rfl, HB.out.trans ((HBK.out.trans (hb3.mono hsk)).mono hs0)⟩
      | false =>
        rw [hx] at X HV
        have HV2 : Hid (E = 0) := HV.out
        have HV3 : Hid (faultN k E = k) := by rw [Hid, HV2.out]; rfl
        clear hx HV
        go_wp2_with (go_at_call 122; refine X.mono ?_; rintro e w3 ⟨rfl, hb3⟩)
        go_ret2
        exact ⟨by rw [HV3.out, HV2.out]; rfl, HB.out.trans ((HBK.out.trans (hb3.mono hsk)).mono hs0)⟩
end Go.Proofs.YtmcjnfghlpnghaaDoor

namespace Go.Proofs.YtmcjnfghlpnghaaDoor
open Go.RowKit

/-- the beam ahead of the k-th one -/
def lastAt (bs : List Int) (k : Nat) : Int := if k = 0 then -1 else bs[k - 1]?.getD 0

def RefFaultRel (w0 : World) (bm : Int) (S bs : List Int) (n2 : Nat) (tot : Int) (u6 : Value) (wr : World) : Prop :=
  ∃ k : Nat, k ≤ n2 ∧ u6 = .int .i64 k ∧ faultGo bm S (bs.drop k) (lastAt bs k) = tot ∧ Below w0.heap.size w0 wr

theorem fE_6 {bm : Int} {S : List Int} {x last : Int} (h : withinB x 0 (bm - 1) = false) : fE bm S x last = 6 := by
  unfold fE
  rw [h]
  rfl
theorem fE_9 {bm : Int} {S : List Int} {x last : Int} (h : withinB x 0 (bm - 1) = true) (h1 : ¬ last < x) : fE bm S x last = 9 := by
  unfold fE
  rw [h, decide_eq_false h1]
  rfl
theorem fE_13 {bm : Int} {S : List Int} {x last : Int} (h : withinB x 0 (bm - 1) = true) (h1 : last < x) (h2 : hasI S x = false) : fE bm S x last = 13 := by
  unfold fE
  rw [h, decide_eq_true h1, h2]
  rfl
theorem fE_0 {bm : Int} {S : List Int} {x last : Int} (h : withinB x 0 (bm - 1) = true) (h1 : last < x) (h2 : hasI S x = true) : fE bm S x last = 0 := by
  unfold fE
  rw [h, decide_eq_true h1, h2]
  rfl

set_option maxRecDepth 100000 in
set_option maxHeartbeats 8000000 in
theorem FaultsErr_any (w : World) (B : Nat) (bm : Nat) (A A2 : Option Addr) (n c n2 c2 : Nat) (l : List Rg) (bs : List Int) (hl : l.length = n) (hl2 : bs.length = n2) (h : Rd w B A (rgCells l)) (h2 : Rd w B A2 (intCells bs)) (hB : B ≤ w.heap.size) (hn2 : n2 ≤ 1000000000) (h0 : recM bm l = 0) (E : Int) (hE : faultsM bm l (suspK l bm) bs = E) :
    Calls Tryd.prog 67 #[.agg #[.int .i64 bm, .slice A n c], .slice A2 n2 c2] w (ErrVal w E) := by
  obtain ⟨r1, r2, r3⟩ := recM_zero h0
  rw [hl] at r3
  have hb0 : Below w.heap.size w (w.alloc (.cells #[.int .i64 (bm : Int), .slice A n c] 96)) := (Below.refl _ _).alloc (Nat.le_refl _) _
  have hr0 := h.below (hb0.mono hB)
  have h20 := h2.below (hb0.mono hB)
  have k0 : (w.alloc (.cells #[.int .i64 (bm : Int), .slice A n c] 96)).heap[w.heap.size]? = some (.cells #[.int .i64 (bm : Int), .slice A n c] 96 (0, 0)) := by rw [heapq_alloc, if_pos rfl]
  have c0 : (w.alloc (.cells #[.int .i64 (bm : Int), .slice A n c] 96)).cell? ⟨w.heap.size, 0, none⟩ = some (.int .i64 (bm : Int)) := (cell_of_row _ _ 0 _ _ _ k0).trans rfl
  have c1 : (w.alloc (.cells #[.int .i64 (bm : Int), .slice A n c] 96)).cell? ⟨w.heap.size, 1, none⟩ = some (.slice A n c) := (cell_of_row _ _ 1 _ _ _ k0).trans rfl
  have hs0 := hb0.size
  have hB0 := Nat.le_trans hB hs0
  have HL := Lib.hid hl
  have HL2 := Lib.hid hl2
  have HB := Lib.hid hb0
  have HE := Lib.hid hE
  clear h h2 hl hl2 hb0 k0 h0 hE
  go_enter Tryd.func67, Tryd.ntmps67
  go_upto_region 1 with (fail)
  generalize w.alloc (.cells #[.int .i64 (bm : Int), .slice A n c] 96) = w0 at *
  have S := refSuspects_any w0 B bm A n c l HL.out hr0 hB0 r3 (by omega)
  have hS40 : (suspK l bm).length ≤ 40 := Nat.le_trans (suspK_len l bm) (by omega)
  generalize suspK l bm = L at *
  go_upto_region 2 with (go_at_call 66; refine S.mono ?_; rintro e w2 ⟨A3, c3, rfl, h3, hb1⟩)
  replace c0 := kept hb1 c0
  replace c1 := kept hb1 c1
  replace hr0 := hr0.below (hb1.mono hB0)
  replace h20 := h20.below (hb1.mono hB0)
  replace HB := Lib.hid (HB.out.trans (hb1.mono hs0))
  replace hs0 := Nat.le_trans hs0 hb1.size
  replace hB0 := Nat.le_trans hB0 hb1.size
  clear hb1 S
  have C0 := Lib.hid c0
  have C1 := Lib.hid c1
  obtain ⟨tot, htot⟩ : ∃ t, faultGo bm L bs (-1) = t := ⟨_, rfl⟩
  have HTOT := Lib.hid htot
  clear htot
  go_wp2
  go_loopw [6] (fun u6 wr => RefFaultRel w2 bm L bs n2 tot u6 wr) (fun u6 _ => n2 - (intOf u6).toNat)
  case atStart => exact ⟨0, Nat.zero_le _, rfl, by rw [List.drop_zero]; exact HTOT.out, Below.refl _ _⟩
  case round =>
    clear c0 c1
    obtain ⟨k, hk, rfl, hgo, hb⟩ := hrel
    have HGO := Lib.hid hgo
    have HBK := Lib.hid hb
    have c0 := kept hb C0.out
    have c1 := kept hb C1.out
    have hsk := hb.size
    have h2r := h20.below (hb.mono hB0)
    have h3r := h3.below hb
    have hr := hr0.below (hb.mono hB0)
    clear hb hgo
    by_cases hkn : k < n2
    · have hkl : k < bs.length := by rw [HL2.out]; exact hkn
      obtain ⟨b2, off2, hA2, _, d1⟩ := h2r.at_ (k := k) (u := .int .i64 (bs[k]?.getD 0)) (intCells_at bs k hkl)
      have HS := Lib.hid (drop_at bs 0 k hkl)
      have HLA : Hid (lastAt bs (k + 1) = bs[k]?.getD 0) := by rw [Hid, lastAt, if_neg (by omega)]; rfl
      have HNX : Hid (fE bm L (bs[k]?.getD 0) (lastAt bs k) = 0 → faultGo bm L (bs.drop (k + 1)) (lastAt bs (k + 1)) = tot) := fun h => by
        have := HGO.out
        rw [HS.out, faultGo, if_pos h] at this
        rw [HLA.out]
        exact this
      have HER : Hid (fE bm L (bs[k]?.getD 0) (lastAt bs k) ≠ 0 → E = fE bm L (bs[k]?.getD 0) (lastAt bs k)) := fun h => by
        have := HGO.out
        rw [HS.out, faultGo, if_neg h] at this
        rw [← HE.out, faultsM, HTOT.out, ← this, if_neg h]
      have HP : Hid (k ≠ 0 → wr.cell? ⟨b2, off2 + (k - 1), none⟩ = some (.int .i64 (lastAt bs k))) := fun h => by
        obtain ⟨b3, off3, hA3, _, d2⟩ := h2r.at_ (k := k - 1) (u := .int .i64 (bs[k - 1]?.getD 0)) (intCells_at bs (k - 1) (by omega))
        rw [hA2] at hA3
        simp only [Option.some.injEq, Addr.mk.injEq, and_true] at hA3
        obtain ⟨rfl, rfl⟩ := hA3
        rw [lastAt, if_neg h]
        exact d2
      have HL0 : Hid (k = 0 → lastAt bs k = -1) := fun h => by rw [lastAt, if_pos h]
      generalize bs[k]?.getD 0 = q at *
      generalize lastAt bs k = last at *
      subst hA2
      clear hkl HS HGO hr c1
      have HBF := Lib.hid (HB.out.trans (HBK.out.mono hs0))
      cases hq : withinB q 0 ((bm : Int) - 1) with
      | false =>
        have H6 : Hid (E = 6) := by
          have h6 := fE_6 (S := L) (last := last) hq
          rw [Hid, HER.out (by rw [h6]; decide), h6]
        clear HER HNX HLA
        go_upto_region 5 with (fail)
        have x0 := fun y : Xt wr => y.cell c0
        have x1 := fun y : Xt wr => y.cell d1
        have v0 : IntKind.i64.wrap ((bm : Int) - 1) = (bm : Int) - 1 := IntWalk.i64_in _ (by omega)
        refine wp_region_xt (by kernel_rfl) (by kernel_rfl) ?_
        repeat (go_big_quiet_step ((go_at_call 49; exact Xt.calls_same (Within_val _ _ _ _ hq _))))
        refine wpQuiet_nil ?_
        intro w4 hx
        have hb1 := Xt.below hx
        clear hx x0 x1 v0 hq d1 c0
        have HBE := Lib.hid (HBF.out.trans (hb1.mono (Nat.le_trans hs0 hsk)))
        clear hb1
        go_wp2
        go_ret
        exact ⟨by rw [H6.out]; rfl, HBE.out⟩
      | true =>
        have hq0 : 0 ≤ q := by
          simp only [withinB, Bool.and_eq_true, decide_eq_true_eq] at hq
          exact hq.1
        have HQ := Lib.hid hq
        go_upto_region 5 with (fail)
        have x0 := fun y : Xt wr => y.cell c0
        have x1 := fun y : Xt wr => y.cell d1
        have v0 : IntKind.i64.wrap ((bm : Int) - 1) = (bm : Int) - 1 := IntWalk.i64_in _ (by omega)
        refine wp_region_xt (by kernel_rfl) (by kernel_rfl) ?_
        repeat (go_big_quiet_step ((go_at_call 49; exact Xt.calls_same (Within_val _ _ _ _ hq _))))
        refine wpQuiet_nil ?_
        intro w4 hx
        have hb1 := Xt.below hx
        clear hx x0 x1 v0 hq c0
        have d1' := kept hb1 d1
        have h3r' := h3r.below (hb1.mono hsk)
        have HB4 := Lib.hid (HBK.out.trans (hb1.mono hsk))
        have HBF4 := Lib.hid (HBF.out.trans (hb1.mono (Nat.le_trans hs0 hsk)))
        have hs4 := hb1.size
        have HP4 : Hid (k ≠ 0 → w4.cell? ⟨b2, off2 + (k - 1), none⟩ = some (.int .i64 last)) := fun h => kept hb1 (HP.out h)
        clear hb1 d1 h3r HP HBK HBF
        go_upto_region 7 with (fail)
        have HSZ := Lib.hid (Nat.le_trans hsk hs4)
        have HSZ0 := Lib.hid (Nat.le_trans hs0 (Nat.le_trans hsk hs4))
        by_cases hk0 : k = 0
        · have f1 : decide ((0 : Int) < (k : Int)) = false := decide_eq_false (by omega)
          have f2 : decide (0 < k) = false := decide_eq_false (by omega)
          have hlq : Hid (last < q) := by rw [Hid, HL0.out hk0]; omega
          clear hk0 HP4 HL0
          have x1 := fun y : Xt w4 => y.cell d1'
          refine wp_region_xt (by kernel_rfl) (by kernel_rfl) ?_
          repeat (go_big_quiet_step (fail))
          refine wpQuiet_nil ?_
          intro w5 hx
          have hb1 := Xt.below hx
          clear hx x1 f1 f2
          have d2 := kept hb1 d1'
          have h35 := h3r'.below (hb1.mono (HSZ.out))
          have HB5 := Lib.hid (HB4.out.trans (hb1.mono (HSZ.out)))
          have HBF5 := Lib.hid (HBF4.out.trans (hb1.mono HSZ0.out))
          clear hb1 d1' h3r' HB4 HBF4
          cases hh : hasI L q with
          | true =>
            have HH := Has_any A3 L.length c3 w2.heap.size L q w5 (by omega) rfl h35
            rw [hh] at HH
            have HG := Lib.hid (HNX.out (fE_0 HQ.out hlq.out hh))
            clear hh HNX HER HLA
            go_wp2_with (go_at_call 52; refine HH.mono ?_; rintro e w' ⟨rfl, rfl⟩)
            go_roundw
            case rel => exact ⟨k + 1, by omega, by go_num, HG.out, HB5.out⟩
            case measure => simp [intOf]; omega
          | false =>
            have HH := Has_any A3 L.length c3 w2.heap.size L q w5 (by omega) rfl h35
            rw [hh] at HH
            have H13 : Hid (E = 13) := by
              have h6 := fE_13 HQ.out hlq.out hh
              rw [Hid, HER.out (by rw [h6]; decide), h6]
            clear hh HNX HER HLA
            go_wp2_with (go_at_call 52; refine HH.mono ?_; rintro e w' ⟨rfl, rfl⟩)
            go_ret
            exact ⟨by rw [H13.out]; rfl, HBF5.out⟩
        · have f1 : decide ((0 : Int) < (k : Int)) = true := decide_eq_true (by omega)
          have f2 : decide (0 < k) = true := decide_eq_true (by omega)
          have d0 := HP4.out hk0
          obtain ⟨j, hj⟩ : ∃ j, k = j + 1 := ⟨k - 1, by omega⟩
          have HKJ := Lib.hid hj
          have hjn : j < n2 := by omega
          rw [show off2 + (k - 1) = off2 + j by omega] at d0
          have v1 : IntKind.i64.wrap ((k : Int) - 1) = (j : Int) := by rw [IntWalk.i64_in _ (by omega)]; omega
          have hj0 : (0 : Int) ≤ (j : Int) := by exact Int.natCast_nonneg j
          clear hk0 HP4 HL0 hj
          have x1 := fun y : Xt w4 => y.cell d1'
          have x0 := fun y : Xt w4 => y.cell d0
          by_cases hle : q ≤ last
          · have H9 : Hid (E = 9) := by
              have h6 := fE_9 (S := L) (last := last) HQ.out (Int.not_lt.2 hle)
              rw [Hid, HER.out (by rw [h6]; decide), h6]
            refine wp_region_xt (by kernel_rfl) (by kernel_rfl) ?_
            repeat (go_big_quiet_step (fail))
            refine wpQuiet_nil ?_
            intro w5 hx
            have hb1 := Xt.below hx
            clear hx x0 x1 v1 f1 f2
            have HBF5 := Lib.hid (HBF4.out.trans (hb1.mono HSZ0.out))
            clear hb1 d1' d0 h3r' HB4 HBF4
            go_wp2
            go_ret
            exact ⟨by rw [H9.out]; rfl, HBF5.out⟩
          · have hlq : Hid (last < q) := Int.not_le.1 hle
            refine wp_region_xt (by kernel_rfl) (by kernel_rfl) ?_
            repeat (go_big_quiet_step (fail))
            refine wpQuiet_nil ?_
            intro w5 hx
            have hb1 := Xt.below hx
            clear hx x0 x1 v1 f1 f2
            have d2 := kept hb1 d1'
            have h35 := h3r'.below (hb1.mono (HSZ.out))
            have HB5 := Lib.hid (HB4.out.trans (hb1.mono (HSZ.out)))
            have HBF5 := Lib.hid (HBF4.out.trans (hb1.mono HSZ0.out))
            clear hb1 d1' d0 h3r' HB4 HBF4
            cases hh : hasI L q with
            | true =>
              have HH := Has_any A3 L.length c3 w2.heap.size L q w5 (by omega) rfl h35
              rw [hh] at HH
              have HG := Lib.hid (HNX.out (fE_0 HQ.out hlq.out hh))
              clear hh HNX HER HLA
              go_wp2_with (go_at_call 52; refine HH.mono ?_; rintro e w' ⟨rfl, rfl⟩)
              go_roundw
              case rel => exact ⟨k + 1, by omega, by go_num, HG.out, HB5.out⟩
              case measure => simp [intOf]; omega
            | false =>
              have HH := Has_any A3 L.length c3 w2.heap.size L q w5 (by omega) rfl h35
              rw [hh] at HH
              have H13 : Hid (E = 13) := by
                have h6 := fE_13 HQ.out hlq.out hh
                rw [Hid, HER.out (by rw [h6]; decide), h6]
              clear hh HNX HER HLA
              go_wp2_with (go_at_call 52; refine HH.mono ?_; rintro e w' ⟨rfl, rfl⟩)
              go_ret
              exact ⟨by rw [H13.out]; rfl, HBF5.out⟩
    · obtain rfl : k = n2 := by omega
      have hd : bs.drop k = [] := by rw [List.drop_eq_nil_iff]; rw [HL2.out]; exact Nat.le_refl _
      have HT : Hid (tot = 0) := by
        have := HGO.out
        rw [hd] at this
        exact this.symm
      have X := explained_any wr B bm A A2 n c k c2 l bs HL.out HL2.out hr h2r (Nat.le_trans hB0 hsk) (by omega) hn2
      have HV : Hid (E = if l.any (missB bs) = true then 14 else 0) := by
        rw [Hid, ← HE.out, faultsM, HTOT.out, HT.out, if_pos rfl]
      clear hd HGO h2r h3r hr
      cases hx : l.any (missB bs) with
      | true =>
        rw [hx] at X HV
        have HV2 : Hid (E = 14) := HV.out
        clear hx HV
        go_wp2_with (go_at_call 123; refine X.mono ?_; rintro e w3 ⟨rfl, hb3⟩)
        go_ret
        exact ⟨by rw [HV2.out]; rfl, HB.out.trans ((HBK.out.trans (hb3.mono hsk)).mono hs0)⟩
      | false =>
        rw [hx] at X HV
        have HV2 : Hid (E = 0) := HV.out
        clear hx HV
        go_wp2_with (go_at_call 123; refine X.mono ?_; rintro e w3 ⟨rfl, hb3⟩)
        go_ret
        exact ⟨by rw [HV2.out]; rfl, HB.out.trans ((HBK.out.trans (hb3.mono hsk)).mono hs0)⟩
end Go.Proofs.YtmcjnfghlpnghaaDoor

namespace Go.Proofs.YtmcjnfghlpnghaaDoor
open Go.RowKit

set_option maxRecDepth 100000 in
set_option maxHeartbeats 8000000 in
theorem CareSuspects_all (w : World) (bm : Int) (A At : Option Addr) (n c nt ct : Nat) (l : List Rg) (bs : List Int) (hk : KindsAt w) (hl : l.length = n) (hlt : bs.length = nt) (hr : Rd w w.heap.size A (rgCells l)) (ht : Rd w w.heap.size At (intCells bs)) :
    Calls Tryd.prog 12 #[.agg #[.int .i64 bm, .slice A n c], .slice At nt ct] w (AwakePost w) := by
  have hb0 : Below w.heap.size w (w.alloc (.cells #[.int .i64 bm, .slice A n c] 96)) := (Below.refl _ _).alloc (Nat.le_refl _) _
  replace hr := hr.below hb0
  replace ht := ht.below hb0
  have hs : w.heap.size ≤ (w.alloc (.cells #[.int .i64 bm, .slice A n c] 96)).heap.size := hb0.size
  have k0 : (w.alloc (.cells #[.int .i64 bm, .slice A n c] 96)).heap[w.heap.size]? = some (.cells #[.int .i64 bm, .slice A n c] 96 (0, 0)) := by rw [heapq_alloc, if_pos rfl]
  have a0 : (w.alloc (.cells #[.int .i64 bm, .slice A n c] 96)).cell? ⟨w.heap.size, 0, none⟩ = some (.int .i64 bm) := (cell_of_row _ _ 0 _ _ _ k0).trans rfl
  have a1 : (w.alloc (.cells #[.int .i64 bm, .slice A n c] 96)).cell? ⟨w.heap.size, 1, none⟩ = some (.slice A n c) := (cell_of_row _ _ 1 _ _ _ k0).trans rfl
  have A0 := awake_any _ (hk.below hb0)
  have HB := Lib.hid hb0
  have HL := Lib.hid hl
  have HLT := Lib.hid hlt
  clear hl hlt hb0 k0 hk
  go_enter Tryd.func12, Tryd.ntmps12
  go_upto_region 1 with (fail)
  generalize (w.alloc (.cells #[.int .i64 bm, .slice A n c] 96)) = w0 at *
  go_wp2_with fail
  refine (A0).mono ?_
  rintro e w1 ⟨rfl, hb1⟩
  replace a0 := kept hb1 a0
  replace a1 := kept hb1 a1
  replace hr := hr.below (hb1.mono hs)
  replace ht := ht.below (hb1.mono hs)
  replace HB := Lib.hid (HB.out.trans (hb1.mono hs))
  replace hs := Nat.le_trans hs hb1.size
  clear hb1
  clear A0
  cases hq : recordB n with
  | false =>
    have RB := record_any w1 bm A n c false hq
    clear hq
    go_wp2_with (go_at_call 61; refine RB.mono ?_; rintro e w2 ⟨rfl, hb1⟩)
    go_ret
    exact ⟨rfl, HB.out.trans (hb1.mono hs)⟩
  | true =>
    have RB := record_any w1 bm A n c true hq
    have g1 : n ≤ 42 := by
      simp only [recordB, Bool.and_eq_true, Bool.or_eq_true, decide_eq_true_eq] at hq
      omega
    clear hq
    by_cases h10 : nt ≤ 10
    · have h10i : ¬ (10 : Int) < (nt : Int) := by omega
      go_upto_region 5 with (go_at_call 61; refine RB.mono ?_; rintro e w2 ⟨rfl, hb1⟩)
      replace a0 := kept hb1 a0
      replace a1 := kept hb1 a1
      replace hr := hr.below (hb1.mono hs)
      replace ht := ht.below (hb1.mono hs)
      replace HB := Lib.hid (HB.out.trans (hb1.mono hs))
      replace hs := Nat.le_trans hs hb1.size
      clear hb1
      clear RB
      by_cases hd : recM bm l = 0
      · obtain ⟨r1, r2, r3⟩ := recM_zero hd
        obtain ⟨bn, rfl⟩ := Int.eq_ofNat_of_zero_le (show 0 ≤ bm by omega)
        have hn40 : n ≤ 40 := by rw [← HL.out]; exact r3
        have hbn : bn ≤ 40 := by omega
        obtain ⟨E, hE⟩ : ∃ E, faultsM bn l (suspK l bn) bs = E := ⟨_, rfl⟩
        have HD := Lib.hid hd
        have HE := Lib.hid hE
        have hS40 : (suspK l bn).length ≤ 40 := Nat.le_trans (suspK_len l bn) hbn
        clear r1 r2 r3 hd hE
        by_cases hE0 : E = 0
        · have SU := fun W B A1 c1 (h1 : Rd W B A1 (rgCells l)) (h3 : B ≤ W.heap.size) => Suspects_yes W B bn A1 n c1 l HL.out h1 h3 HD.out
          have CF := fun W B A1 A2 c1 c2 (h1 : Rd W B A1 (rgCells l)) (h2 : Rd W B A2 (intCells bs)) (h3 : B ≤ W.heap.size) => CheckFaults_yes W B bn A1 A2 n c1 nt c2 l bs HL.out HLT.out h1 h2 h3 (by omega) HD.out E HE.out
          have RE := fun W B A1 c1 (h1 : Rd W B A1 (rgCells l)) (h3 : B ≤ W.heap.size) => RecordErr_any W B bn A1 n c1 l HL.out h1 h3
          have RS := fun W B A1 c1 (h1 : Rd W B A1 (rgCells l)) (h3 : B ≤ W.heap.size) => refSuspects_any W B bn A1 n c1 l HL.out h1 h3 hn40 hbn
          have FE := fun W B A1 A2 c1 c2 (h1 : Rd W B A1 (rgCells l)) (h2 : Rd W B A2 (intCells bs)) (h3 : B ≤ W.heap.size) => FaultsErr_any W B bn A1 A2 n c1 nt c2 l bs HL.out HLT.out h1 h2 h3 (by omega) HD.out E HE.out
          unfold LeastPost at CF
          unfold ErrVal at RE FE
          simp only [HD.out] at RE
          have hfn : faultN nt 0 = nt := by rw [faultN, if_pos rfl]
          simp only [hE0] at CF FE
          simp only [hfn] at CF
          clear hfn
          generalize suspK l bn = L at *
          clear HE HD hE0
          go_wp2_with fail
          refine (CopyRecord_any w2 w.heap.size _ A n c l HL.out (by omega) hr hs).mono ?_
          rintro e w3 ⟨A1, c1, rfl, hp1, hb1⟩
          replace a0 := kept hb1 a0
          replace a1 := kept hb1 a1
          replace hr := hr.below (hb1.mono hs)
          replace ht := ht.below (hb1.mono hs)
          replace HB := Lib.hid (HB.out.trans (hb1.mono hs))
          replace hs := Nat.le_trans hs hb1.size
          clear hb1
          go_upto_region 6 with (go_at_call 62; refine (SU w3 w3.heap.size A1 c1 hp1 (Nat.le_refl _)).mono ?_; rintro e w4 ⟨A4, c4, rfl, hL, hb1⟩)
          replace a0 := kept hb1 a0
          replace a1 := kept hb1 a1
          replace hr := hr.below (hb1.mono hs)
          replace ht := ht.below (hb1.mono hs)
          replace hp1 := (hp1.below hb1).mono hb1.size
          replace HB := Lib.hid (HB.out.trans (hb1.mono hs))
          replace hs := Nat.le_trans hs hb1.size
          clear hb1
          clear hp1
          go_wp2_with fail
          refine (CopyRecord_any w4 w.heap.size _ A n c l HL.out (by omega) hr hs).mono ?_
          rintro e w5 ⟨A1, c1, rfl, hp1, hb1⟩
          replace a0 := kept hb1 a0
          replace a1 := kept hb1 a1
          replace hr := hr.below (hb1.mono hs)
          replace ht := ht.below (hb1.mono hs)
          replace hL := (hL.below hb1).mono hb1.size
          replace HB := Lib.hid (HB.out.trans (hb1.mono hs))
          replace hs := Nat.le_trans hs hb1.size
          clear hb1
          go_wp2_with fail
          refine (CopyInts_any w5 w.heap.size At nt ct bs HLT.out (by omega) ht hs).mono ?_
          rintro e w6 ⟨A3, c3, rfl, ht1, hb1⟩
          replace a0 := kept hb1 a0
          replace a1 := kept hb1 a1
          replace hr := hr.below (hb1.mono hs)
          replace ht := ht.below (hb1.mono hs)
          replace hL := (hL.below hb1).mono hb1.size
          replace hp1 := (hp1.below hb1).mono hb1.size
          replace HB := Lib.hid (HB.out.trans (hb1.mono hs))
          replace hs := Nat.le_trans hs hb1.size
          clear hb1
          go_upto_region 7 with (go_at_call 64; refine (CF w6 w6.heap.size A1 A3 c1 c3 hp1 ht1 (Nat.le_refl _)).mono ?_; rintro e w7 ⟨rfl, hb1⟩)
          replace a0 := kept hb1 a0
          replace a1 := kept hb1 a1
          replace hr := hr.below (hb1.mono hs)
          replace ht := ht.below (hb1.mono hs)
          replace hL := (hL.below hb1).mono hb1.size
          replace hp1 := (hp1.below hb1).mono hb1.size
          replace ht1 := (ht1.below hb1).mono hb1.size
          replace HB := Lib.hid (HB.out.trans (hb1.mono hs))
          replace hs := Nat.le_trans hs hb1.size
          clear hb1
          clear hp1 ht1
          go_upto_region 8 with (go_at_call 65; refine (RE w7 w.heap.size A c hr hs).mono ?_; rintro e w8 ⟨rfl, hb1⟩)
          replace a0 := kept hb1 a0
          replace a1 := kept hb1 a1
          replace hr := hr.below (hb1.mono hs)
          replace ht := ht.below (hb1.mono hs)
          replace hL := (hL.below hb1).mono hb1.size
          replace HB := Lib.hid (HB.out.trans (hb1.mono hs))
          replace hs := Nat.le_trans hs hb1.size
          clear hb1
          go_wp2_with fail
          refine (RS w8 w.heap.size A c hr hs).mono ?_
          rintro e w9 ⟨A5, c5, rfl, hL2, hb1⟩
          replace a0 := kept hb1 a0
          replace a1 := kept hb1 a1
          replace hr := hr.below (hb1.mono hs)
          replace ht := ht.below (hb1.mono hs)
          replace hL := (hL.below hb1).mono hb1.size
          replace HB := Lib.hid (HB.out.trans (hb1.mono hs))
          replace hs := Nat.le_trans hs hb1.size
          clear hb1
          go_upto_region 12 with (go_at_call 50; refine (Ints_same A4 A5 L.length c4 c5 w9.heap.size w9.heap.size L w9 (by omega) rfl hL hL2 (Nat.le_refl _) (Nat.le_refl _)).mono ?_; rintro e w10 ⟨rfl, hb1⟩)
          replace a0 := kept hb1 a0
          replace a1 := kept hb1 a1
          replace hr := hr.below (hb1.mono hs)
          replace ht := ht.below (hb1.mono hs)
          replace hL := (hL.below hb1).mono hb1.size
          replace hL2 := (hL2.below hb1).mono hb1.size
          replace HB := Lib.hid (HB.out.trans (hb1.mono hs))
          replace hs := Nat.le_trans hs hb1.size
          clear hb1
          clear hL hL2
          go_upto_region 13 with (go_at_call 67; refine (FE w10 w.heap.size A At c ct hr ht hs).mono ?_; rintro e w11 ⟨rfl, hb1⟩)
          replace a0 := kept hb1 a0
          replace a1 := kept hb1 a1
          replace hr := hr.below (hb1.mono hs)
          replace ht := ht.below (hb1.mono hs)
          replace HB := Lib.hid (HB.out.trans (hb1.mono hs))
          replace hs := Nat.le_trans hs hb1.size
          clear hb1
          go_wp2
          go_ret
          exact ⟨rfl, HB.out⟩
        · have SU := fun W B A1 c1 (h1 : Rd W B A1 (rgCells l)) (h3 : B ≤ W.heap.size) => Suspects_yes W B bn A1 n c1 l HL.out h1 h3 HD.out
          have CF := fun W B A1 A2 c1 c2 (h1 : Rd W B A1 (rgCells l)) (h2 : Rd W B A2 (intCells bs)) (h3 : B ≤ W.heap.size) => CheckFaults_yes W B bn A1 A2 n c1 nt c2 l bs HL.out HLT.out h1 h2 h3 (by omega) HD.out E HE.out
          have RE := fun W B A1 c1 (h1 : Rd W B A1 (rgCells l)) (h3 : B ≤ W.heap.size) => RecordErr_any W B bn A1 n c1 l HL.out h1 h3
          have RS := fun W B A1 c1 (h1 : Rd W B A1 (rgCells l)) (h3 : B ≤ W.heap.size) => refSuspects_any W B bn A1 n c1 l HL.out h1 h3 hn40 hbn
          have FE := fun W B A1 A2 c1 c2 (h1 : Rd W B A1 (rgCells l)) (h2 : Rd W B A2 (intCells bs)) (h3 : B ≤ W.heap.size) => FaultsErr_any W B bn A1 A2 n c1 nt c2 l bs HL.out HLT.out h1 h2 h3 (by omega) HD.out E HE.out
          unfold LeastPost at CF
          unfold ErrVal at RE FE
          simp only [HD.out] at RE
          have hfn : faultN nt E = 0 := by rw [faultN, if_neg hE0]
          simp only [hfn] at CF
          have e1 : (E != 0) = true := bne_iff_ne.2 hE0
          clear hfn
          generalize suspK l bn = L at *
          clear HE HD hE0
          go_wp2_with fail
          refine (CopyRecord_any w2 w.heap.size _ A n c l HL.out (by omega) hr hs).mono ?_
          rintro e w3 ⟨A1, c1, rfl, hp1, hb1⟩
          replace a0 := kept hb1 a0
          replace a1 := kept hb1 a1
          replace hr := hr.below (hb1.mono hs)
          replace ht := ht.below (hb1.mono hs)
          replace HB := Lib.hid (HB.out.trans (hb1.mono hs))
          replace hs := Nat.le_trans hs hb1.size
          clear hb1
          go_upto_region 6 with (go_at_call 62; refine (SU w3 w3.heap.size A1 c1 hp1 (Nat.le_refl _)).mono ?_; rintro e w4 ⟨A4, c4, rfl, hL, hb1⟩)
          replace a0 := kept hb1 a0
          replace a1 := kept hb1 a1
          replace hr := hr.below (hb1.mono hs)
          replace ht := ht.below (hb1.mono hs)
          replace hp1 := (hp1.below hb1).mono hb1.size
          replace HB := Lib.hid (HB.out.trans (hb1.mono hs))
          replace hs := Nat.le_trans hs hb1.size
          clear hb1
          clear hp1
          go_wp2_with fail
          refine (CopyRecord_any w4 w.heap.size _ A n c l HL.out (by omega) hr hs).mono ?_
          rintro e w5 ⟨A1, c1, rfl, hp1, hb1⟩
          replace a0 := kept hb1 a0
          replace a1 := kept hb1 a1
          replace hr := hr.below (hb1.mono hs)
          replace ht := ht.below (hb1.mono hs)
          replace hL := (hL.below hb1).mono hb1.size
          replace HB := Lib.hid (HB.out.trans (hb1.mono hs))
          replace hs := Nat.le_trans hs hb1.size
          clear hb1
          go_wp2_with fail
          refine (CopyInts_any w5 w.heap.size At nt ct bs HLT.out (by omega) ht hs).mono ?_
          rintro e w6 ⟨A3, c3, rfl, ht1, hb1⟩
          replace a0 := kept hb1 a0
          replace a1 := kept hb1 a1
          replace hr := hr.below (hb1.mono hs)
          replace ht := ht.below (hb1.mono hs)
          replace hL := (hL.below hb1).mono hb1.size
          replace hp1 := (hp1.below hb1).mono hb1.size
          replace HB := Lib.hid (HB.out.trans (hb1.mono hs))
          replace hs := Nat.le_trans hs hb1.size
          clear hb1
          go_upto_region 7 with (go_at_call 64; refine (CF w6 w6.heap.size A1 A3 c1 c3 hp1 ht1 (Nat.le_refl _)).mono ?_; rintro e w7 ⟨rfl, hb1⟩)
          replace a0 := kept hb1 a0
          replace a1 := kept hb1 a1
          replace hr := hr.below (hb1.mono hs)
          replace ht := ht.below (hb1.mono hs)
          replace hL := (hL.below hb1).mono hb1.size
          replace hp1 := (hp1.below hb1).mono hb1.size
          replace ht1 := (ht1.below hb1).mono hb1.size
          replace HB := Lib.hid (HB.out.trans (hb1.mono hs))
          replace hs := Nat.le_trans hs hb1.size
          clear hb1
          clear hp1 ht1
          go_upto_region 8 with (go_at_call 65; refine (RE w7 w.heap.size A c hr hs).mono ?_; rintro e w8 ⟨rfl, hb1⟩)
          replace a0 := kept hb1 a0
          replace a1 := kept hb1 a1
          replace hr := hr.below (hb1.mono hs)
          replace ht := ht.below (hb1.mono hs)
          replace hL := (hL.below hb1).mono hb1.size
          replace HB := Lib.hid (HB.out.trans (hb1.mono hs))
          replace hs := Nat.le_trans hs hb1.size
          clear hb1
          go_wp2_with fail
          refine (RS w8 w.heap.size A c hr hs).mono ?_
          rintro e w9 ⟨A5, c5, rfl, hL2, hb1⟩
          replace a0 := kept hb1 a0
          replace a1 := kept hb1 a1
          replace hr := hr.below (hb1.mono hs)
          replace ht := ht.below (hb1.mono hs)
          replace hL := (hL.below hb1).mono hb1.size
          replace HB := Lib.hid (HB.out.trans (hb1.mono hs))
          replace hs := Nat.le_trans hs hb1.size
          clear hb1
          go_upto_region 12 with (go_at_call 50; refine (Ints_same A4 A5 L.length c4 c5 w9.heap.size w9.heap.size L w9 (by omega) rfl hL hL2 (Nat.le_refl _) (Nat.le_refl _)).mono ?_; rintro e w10 ⟨rfl, hb1⟩)
          replace a0 := kept hb1 a0
          replace a1 := kept hb1 a1
          replace hr := hr.below (hb1.mono hs)
          replace ht := ht.below (hb1.mono hs)
          replace hL := (hL.below hb1).mono hb1.size
          replace hL2 := (hL2.below hb1).mono hb1.size
          replace HB := Lib.hid (HB.out.trans (hb1.mono hs))
          replace hs := Nat.le_trans hs hb1.size
          clear hb1
          clear hL hL2
          go_upto_region 13 with (go_at_call 67; refine (FE w10 w.heap.size A At c ct hr ht hs).mono ?_; rintro e w11 ⟨rfl, hb1⟩)
          replace a0 := kept hb1 a0
          replace a1 := kept hb1 a1
          replace hr := hr.below (hb1.mono hs)
          replace ht := ht.below (hb1.mono hs)
          replace HB := Lib.hid (HB.out.trans (hb1.mono hs))
          replace hs := Nat.le_trans hs hb1.size
          clear hb1
          go_wp2
          go_ret
          exact ⟨rfl, HB.out⟩
      · have SU := fun W B A1 c1 (h1 : Rd W B A1 (rgCells l)) (h3 : B ≤ W.heap.size) => Suspects_no W B bm A1 n c1 l HL.out h1 h3 (by omega) hd
        have CF := fun W B A1 A2 c1 n2 c2 (h1 : Rd W B A1 (rgCells l)) (h3 : B ≤ W.heap.size) => CheckFaults_no W B bm A1 A2 n c1 n2 c2 l HL.out h1 h3 (by omega) hd
        have RE := fun W B A1 c1 (h1 : Rd W B A1 (rgCells l)) (h3 : B ≤ W.heap.size) => RecordErr_any W B bm A1 n c1 l HL.out h1 h3
        unfold LeastPost at CF
        unfold ErrVal at RE
        have e1 : (recM bm l != 0) = true := bne_iff_ne.2 hd
        generalize recM bm l = er at *
        clear hd
        go_wp2_with fail
        refine (CopyRecord_any w2 w.heap.size _ A n c l HL.out (by omega) hr hs).mono ?_
        rintro e w3 ⟨A1, c1, rfl, hp1, hb1⟩
        replace a0 := kept hb1 a0
        replace a1 := kept hb1 a1
        replace hr := hr.below (hb1.mono hs)
        replace ht := ht.below (hb1.mono hs)
        replace HB := Lib.hid (HB.out.trans (hb1.mono hs))
        replace hs := Nat.le_trans hs hb1.size
        clear hb1
        go_upto_region 6 with (go_at_call 62; refine (SU w3 w3.heap.size A1 c1 hp1 (Nat.le_refl _)).mono ?_; rintro e w4 ⟨rfl, hb1⟩)
        replace a0 := kept hb1 a0
        replace a1 := kept hb1 a1
        replace hr := hr.below (hb1.mono hs)
        replace ht := ht.below (hb1.mono hs)
        replace hp1 := (hp1.below hb1).mono hb1.size
        replace HB := Lib.hid (HB.out.trans (hb1.mono hs))
        replace hs := Nat.le_trans hs hb1.size
        clear hb1
        clear hp1
        go_wp2_with fail
        refine (CopyRecord_any w4 w.heap.size _ A n c l HL.out (by omega) hr hs).mono ?_
        rintro e w5 ⟨A1, c1, rfl, hp1, hb1⟩
        replace a0 := kept hb1 a0
        replace a1 := kept hb1 a1
        replace hr := hr.below (hb1.mono hs)
        replace ht := ht.below (hb1.mono hs)
        replace HB := Lib.hid (HB.out.trans (hb1.mono hs))
        replace hs := Nat.le_trans hs hb1.size
        clear hb1
        go_wp2_with fail
        refine (CopyInts_any w5 w.heap.size At nt ct bs HLT.out (by omega) ht hs).mono ?_
        rintro e w6 ⟨A3, c3, rfl, ht1, hb1⟩
        replace a0 := kept hb1 a0
        replace a1 := kept hb1 a1
        replace hr := hr.below (hb1.mono hs)
        replace ht := ht.below (hb1.mono hs)
        replace hp1 := (hp1.below hb1).mono hb1.size
        replace HB := Lib.hid (HB.out.trans (hb1.mono hs))
        replace hs := Nat.le_trans hs hb1.size
        clear hb1
        go_upto_region 7 with (go_at_call 64; refine (CF w6 w6.heap.size A1 A3 c1 nt c3 hp1 (Nat.le_refl _)).mono ?_; rintro e w7 ⟨rfl, hb1⟩)
        replace a0 := kept hb1 a0
        replace a1 := kept hb1 a1
        replace hr := hr.below (hb1.mono hs)
        replace ht := ht.below (hb1.mono hs)
        replace hp1 := (hp1.below hb1).mono hb1.size
        replace ht1 := (ht1.below hb1).mono hb1.size
        replace HB := Lib.hid (HB.out.trans (hb1.mono hs))
        replace hs := Nat.le_trans hs hb1.size
        clear hb1
        clear hp1 ht1
        go_upto_region 8 with (go_at_call 65; refine (RE w7 w.heap.size A c hr hs).mono ?_; rintro e w8 ⟨rfl, hb1⟩)
        replace a0 := kept hb1 a0
        replace a1 := kept hb1 a1
        replace hr := hr.below (hb1.mono hs)
        replace ht := ht.below (hb1.mono hs)
        replace HB := Lib.hid (HB.out.trans (hb1.mono hs))
        replace hs := Nat.le_trans hs hb1.size
        clear hb1
        go_wp2
        go_ret
        exact ⟨rfl, HB.out⟩
    · have h10i : (10 : Int) < (nt : Int) := by omega
      go_wp2_with (go_at_call 61; refine RB.mono ?_; rintro e w2 ⟨rfl, hb1⟩)
      go_ret
      exact ⟨rfl, HB.out.trans (hb1.mono hs)⟩
end Go.Proofs.YtmcjnfghlpnghaaDoor

namespace Go.Proofs.YtmcjnfghlpnghaaDoor
open Go.ChangeShapes Go.WideShapes Go.Deep Go.RowKit Go Go.Joins

section
variable {H : Type} {enc : TypeId × Value → H} {w : World} {base : Nat} {spare : Nat → Bool} {held : Bool}

theorem ofc175 : Tryd.prog.cellsOf 175 = 3 := by kernel_rfl
set_option maxRecDepth 100000 in
theorem open_reading {n : Nat} {cs : List Value} {y : DataW H × List MemPlace} (h : DataW.trod enc Tryd.prog w base spare held n 175 cs = some y) : ∃ e : Rg, cs = rgVals e := by
  obtain ⟨y0, y1, y2, n, _, hl, h0, h1, h2⟩ := trod_struct3 Tryd.underlying175 h
  rw [ofc175] at hl
  match cs, hl with
  | [a, b, c], _ =>
    rw [ofc3] at h0 h1
    rw [cells4] at h2
    simp only [List.drop_zero, List.take_succ_cons, List.take_zero, List.drop_succ_cons] at h0 h1 h2
    obtain ⟨i, e0, _⟩ := DataW.trod_int Tryd.underlying3 h0
    obtain ⟨j, e1, _⟩ := DataW.trod_int Tryd.underlying3 h1
    obtain ⟨k, e2, _⟩ := DataW.trod_bool Tryd.underlying4 h2
    simp only [List.cons.injEq, and_true] at e0 e1 e2
    subst e0 e1 e2
    exact ⟨(i, j, k), rfl⟩
theorem open_readings {fuel : Nat} {cs : List Value} {x : DataW H × List MemPlace} (h : DataW.trod enc Tryd.prog w base spare held fuel 94 cs = some x) :
    ∃ A n c, ∃ l : List Rg, cs = [.slice A n c] ∧ l.length = n ∧ n ≤ maxLen ∧ Rd w w.heap.size A (rgCells l) :=
  open_rows (P := Tryd.prog) (k := 3) rgVals Tryd.underlying94 ofc175 (fun _ => rfl) (fun _ _ _ hy => open_reading hy) h

set_option maxRecDepth 100000 in
theorem open_record {r : Reach} {b0 : Nat} {v : Value} {d : DataW H} {p : List MemPlace} (hv : Value.okWide Tryd.prog w r b0 96 v) (h : DataW.Trod enc Tryd.prog w base spare held 96 v d p) :
    ∃ (bm : Int) (A : Option Addr) (n c : Nat) (l : List Rg), v = .agg #[.int .i64 bm, .slice A n c] ∧ n ≤ maxLen ∧ (l.length = n ∧ Rd w w.heap.size A (rgCells l)) := by
  obtain ⟨v0, v1, y0, y1, n, rfl, h0, h1⟩ := open_agg2s Tryd.underlying96 (by kernel_rfl) (by kernel_rfl) hv h
  obtain ⟨bm, e0, _⟩ := DataW.trod_int Tryd.underlying3 h0
  obtain ⟨A, n, c, l, e1, ll, ml, rl⟩ := open_readings h1
  simp only [List.cons.injEq, and_true] at e0 e1
  subst e0 e1
  exact ⟨bm, A, n, c, l, rfl, ml, ll, rl⟩
end
end Go.Proofs.YtmcjnfghlpnghaaDoor
