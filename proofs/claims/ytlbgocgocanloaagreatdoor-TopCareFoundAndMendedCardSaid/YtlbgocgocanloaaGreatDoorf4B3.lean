/- CheckRooms. -/
import Derived.Test.YtlbgocgocanloaaGreatDoorf4B2
namespace Go.Proofs.YtlbgocgocanloaaGreatDoor
open Go.RowKit
def isCrowdB (n : Int) : Bool := withinB n 0 10000
def notCrowdB (n : Int) : Bool := !isCrowdB n
theorem isCrowd_any (n : Int) (w : World) :
    Calls Tryz.prog 138 #[.int .i64 n] w fun e w' => e = .returned (.bool (isCrowdB n)) ∧ w = w' := by
  go_enter Tryz.func138, Tryz.ntmps138
  go_wp2_with (go_at_call 41; refine (within_any _ _ _ _).mono ?_; rintro e w' ⟨rfl, rfl⟩)
  go_ret
  exact ⟨rfl, rfl⟩
theorem notCrowd_any (n : Int) (w : World) :
    Calls Tryz.prog 137 #[.int .i64 n] w fun e w' => e = .returned (.bool (notCrowdB n)) ∧ w = w' := by
  go_enter Tryz.func137, Tryz.ntmps137
  go_wp2_with (go_at_call 138; refine (isCrowd_any _ _).mono ?_; rintro e w' ⟨rfl, rfl⟩)
  go_ret
  exact ⟨rfl, rfl⟩
def intCells (l : List Int) : List Value := l.map (.int .i64)
theorem intCells_at (l : List Int) (k : Nat) (h : k < l.length) : (intCells l)[k]? = some (.int .i64 (l[k]?.getD 0)) := by simp [intCells, h]
/-- slices.IndexFunc at []int, the predicate being function 96 -/
theorem IndexFunc_96 (A : Option Addr) (n c B : Nat) (l : List Int) (w : World) (hn : n ≤ 1000000000) (hl : l.length = n) (h : Rd w B A (intCells l)) :
    Calls Tryz.prog 136 #[.slice A n c, .func (.func 137) #[] #[]] w fun e w' => e = .returned (.int .i64 (idxGo notCrowdB l 0)) ∧ w = w' := by
  have HL := Lib.hid hl; clear hl
  go_enter Tryz.func136, Tryz.ntmps136
  go_wp2
  go_loop [5, 8] (fun _ i => ∃ k : Nat, k ≤ n ∧ i = .int .i64 k ∧ idxGo notCrowdB (l.drop k) k = idxGo notCrowdB l 0) (fun _ i => n - (intOf i).toNat)
  case atStart => exact ⟨0, Nat.zero_le _, rfl, rfl⟩
  case round =>
    obtain ⟨k, hk, rfl, he⟩ := hrel
    have HE := Lib.hid he; clear he
    by_cases hlt : k < n
    · have hkl : k < l.length := by rw [HL.out]; exact hlt
      obtain ⟨b, off, rfl, _, hc⟩ := h.at_ (intCells_at l k hkl)
      have HS := Lib.hid (drop_at l 0 k hkl)
      clear hkl
      cases hz : notCrowdB (l[k]?.getD 0)
      · have HZ := Lib.hid hz
        go_wp2_with (go_at_call 137; refine (notCrowd_any _ _).mono ?_; rintro e w' ⟨rfl, rfl⟩)
        go_round
        case rel => exact ⟨k + 1, by omega, by go_num, by rw [← HE.out, HS.out, idxGo]; simp [HZ.out]⟩
        case measure => simp [intOf]; omega
      · have HZ := Lib.hid hz
        go_wp2_with (go_at_call 137; refine (notCrowd_any _ _).mono ?_; rintro e w' ⟨rfl, rfl⟩)
        go_ret
        exact ⟨by rw [← HE.out, HS.out, idxGo, HZ.out]; rfl, rfl⟩
    · go_wp2
      go_ret
      have : l.drop k = [] := by rw [List.drop_eq_nil_iff]; rw [HL.out]; omega
      exact ⟨by rw [← HE.out, this]; rfl, rfl⟩
def isRoomB (np : Nat) (n : Int) : Bool := withinB n 0 ((np : Int) - 1)
theorem isRoom_any (n : Int) (g np cp : Nat) (A : Option Addr) (w : World) (hnp : np ≤ 1000000000) (hc : w.cell? ⟨g, 0, none⟩ = some (.slice A np cp)) :
    Calls Tryz.prog 139 #[.int .i64 n, .pointer (some ⟨g, 0, none⟩)] w fun e w' => e = .returned (.bool (isRoomB np n)) ∧ w = w' := by
  go_enter Tryz.func139, Tryz.ntmps139
  go_wp2_with (go_at_call 41; refine (within_any _ _ _ _).mono ?_; rintro e w' ⟨rfl, rfl⟩)
  go_ret
  exact ⟨rfl, rfl⟩
theorem isRoom_val (n : Int) (g np cp : Nat) (A : Option Addr) (w : World) (b : Bool) (hb : isRoomB np n = b) (hnp : np ≤ 1000000000) (hc : w.cell? ⟨g, 0, none⟩ = some (.slice A np cp)) :
    Calls Tryz.prog 139 #[.int .i64 n, .pointer (some ⟨g, 0, none⟩)] w fun e w' => e = .returned (.bool b) ∧ w = w' := by
  rw [← hb]
  exact isRoom_any n g np cp A w hnp hc
/-- the error of a way -/
def wayE (np : Nat) (x : Ev) : Int :=
  firstE [unlessE (isRoomB np x.1 && (x.2.1 == -1 || isRoomB np x.2.1)) 6, unlessE (x.1 != x.2.1) 13, unlessE (decide (0 < x.2.2) && isCrowdB x.2.2) 2]
def waysGo (np : Nat) : List Ev → Nat → Int × Int
  | [], _ => (0, 0)
  | x :: l, i => if wayE np x = 0 then waysGo np l (i + 1) else ((i : Int), wayE np x)
/-- CheckRooms -/
def roomsM (pp : List Int) (ws : List Ev) : Int × Int :=
  if pp.length = 0 then (0, 10)
  else if pp.length ≤ 6 ∧ ws.length ≤ 16 then
    if 0 ≤ idxGo notCrowdB pp 0 then (idxGo notCrowdB pp 0, 2) else waysGo pp.length ws 0
  else (0, 8)
theorem rooms_none (Ap Aw : Option Addr) (np cp nw cw : Nat) (w : World) (hc : np = 0) :
    Calls Tryz.prog 105 #[.agg #[.slice Ap np cp, .slice Aw nw cw]] w fun e w' => e = .returned (.tuple #[.int .i64 0, .int .i64 10]) ∧ Below w.heap.size w w' := by
  subst hc
  have b0 : (w.alloc (.cells #[.slice Ap 0 cp, .slice Aw nw cw] 65)).cell? ⟨w.heap.size, 0, none⟩ = some (.slice Ap 0 cp) := by simp
  have b1 : (w.alloc (.cells #[.slice Ap 0 cp, .slice Aw nw cw] 65)).cell? ⟨w.heap.size, 1, none⟩ = some (.slice Aw nw cw) := by simp
  have hb0 : Below w.heap.size w (w.alloc (.cells #[.slice Ap 0 cp, .slice Aw nw cw] 65)) := (Below.refl _ _).alloc (Nat.le_refl _) _
  have hs0 : w.heap.size ≤ (w.alloc (.cells #[.slice Ap 0 cp, .slice Aw nw cw] 65)).heap.size := by simp
  go_enter Tryz.func105, Tryz.ntmps105
  go_wp2
  generalize w.alloc (.cells #[.slice Ap 0 cp, .slice Aw nw cw] 65) = w0 at *
  generalize hB0 : w.heap.size = B0 at *
  have HB0 := Lib.hid hB0
  clear hB0
  have x0 := fun x : Xt w0 => x.cell b0
  have x1 := fun x : Xt w0 => x.cell b1
  refine wp_region_cut [] [0, 1, 2, 3, 4, 5, 6, 7, 8, 9, 10, 11, 12, 13, 14, 15] 16 [17, 18] (fun w' => ∃ x : Xt w0, w' = x.1) (by kernel_rfl) (by kernel_rfl) ⟨⟨w0.drew, (Below.refl _ _).drew⟩, rfl⟩ ?_
  simp only [opsAt_nil, opsAt_cons, consOpt_some, List.getElem?_toArray, List.getElem?_cons_zero, List.getElem?_cons_succ]
  refine wpQuiet_nil ?_
  show wpQuiet _ _ _ _ _ _
  repeat (go_big_quiet_step (first | (go_at_call 62; exact Xt.calls_same (unless_any _ _ _))))
  refine wpQuiet_nil ?_
  intro w1 hx
  have hb1 := Xt.below hx
  clear hx
  go_wp2_with (go_at_call 61; refine (first2 _ _ _).mono ?_; rintro e w' ⟨rfl, rfl⟩)
  refine onlyNormal_mk ?_
  go_wp2
  go_ret2
  exact ⟨rfl, by rw [HB0.out]; exact (hb0.trans (hb1.mono hs0)).alloc (Nat.le_trans hs0 hb1.size) _⟩
theorem rooms_many (Ap Aw : Option Addr) (np cp nw cw : Nat) (w : World) (h0 : 0 < np) (hc : 6 < np) :
    Calls Tryz.prog 105 #[.agg #[.slice Ap np cp, .slice Aw nw cw]] w fun e w' => e = .returned (.tuple #[.int .i64 0, .int .i64 8]) ∧ Below w.heap.size w w' := by
  have h1' : (0 : Int) < (np : Int) := by omega
  have h2' : ¬ (np : Int) ≤ 6 := by omega
  have h2'' : decide ((np : Int) ≤ 6) = false := by simp; omega
  have b0 : (w.alloc (.cells #[.slice Ap np cp, .slice Aw nw cw] 65)).cell? ⟨w.heap.size, 0, none⟩ = some (.slice Ap np cp) := by simp
  have b1 : (w.alloc (.cells #[.slice Ap np cp, .slice Aw nw cw] 65)).cell? ⟨w.heap.size, 1, none⟩ = some (.slice Aw nw cw) := by simp
  have hb0 : Below w.heap.size w (w.alloc (.cells #[.slice Ap np cp, .slice Aw nw cw] 65)) := (Below.refl _ _).alloc (Nat.le_refl _) _
  have hs0 : w.heap.size ≤ (w.alloc (.cells #[.slice Ap np cp, .slice Aw nw cw] 65)).heap.size := by simp
  go_enter Tryz.func105, Tryz.ntmps105
  go_wp2
  generalize w.alloc (.cells #[.slice Ap np cp, .slice Aw nw cw] 65) = w0 at *
  generalize hB0 : w.heap.size = B0 at *
  have HB0 := Lib.hid hB0
  clear hB0
  have x0 := fun x : Xt w0 => x.cell b0
  have x1 := fun x : Xt w0 => x.cell b1
  refine wp_region_cut [] [0, 1, 2, 3, 4, 5, 6, 7, 8, 9, 10, 11, 12, 13, 14, 15] 16 [17, 18] (fun w' => ∃ x : Xt w0, w' = x.1) (by kernel_rfl) (by kernel_rfl) ⟨⟨w0.drew, (Below.refl _ _).drew⟩, rfl⟩ ?_
  simp only [opsAt_nil, opsAt_cons, consOpt_some, List.getElem?_toArray, List.getElem?_cons_zero, List.getElem?_cons_succ]
  refine wpQuiet_nil ?_
  show wpQuiet _ _ _ _ _ _
  repeat (go_big_quiet_step (first | (go_at_call 62; exact Xt.calls_same (unless_any _ _ _))))
  refine wpQuiet_nil ?_
  intro w1 hx
  have hb1 := Xt.below hx
  clear hx
  go_wp2_with (go_at_call 61; refine (first2 _ _ _).mono ?_; rintro e w' ⟨rfl, rfl⟩)
  refine onlyNormal_mk ?_
  go_wp2
  go_ret2
  exact ⟨rfl, by rw [HB0.out]; exact (hb0.trans (hb1.mono hs0)).alloc (Nat.le_trans hs0 hb1.size) _⟩
theorem rooms_ways (Ap Aw : Option Addr) (np cp nw cw : Nat) (w : World) (h0 : 0 < np) (h1 : np ≤ 6) (hc : 16 < nw) :
    Calls Tryz.prog 105 #[.agg #[.slice Ap np cp, .slice Aw nw cw]] w fun e w' => e = .returned (.tuple #[.int .i64 0, .int .i64 8]) ∧ Below w.heap.size w w' := by
  have h1' : (0 : Int) < (np : Int) := by omega
  have h2' : (np : Int) ≤ 6 := by omega
  have h3' : ¬ (nw : Int) ≤ 16 := by omega
  have h3'' : decide ((nw : Int) ≤ 16) = false := by simp; omega
  have b0 : (w.alloc (.cells #[.slice Ap np cp, .slice Aw nw cw] 65)).cell? ⟨w.heap.size, 0, none⟩ = some (.slice Ap np cp) := by simp
  have b1 : (w.alloc (.cells #[.slice Ap np cp, .slice Aw nw cw] 65)).cell? ⟨w.heap.size, 1, none⟩ = some (.slice Aw nw cw) := by simp
  have hb0 : Below w.heap.size w (w.alloc (.cells #[.slice Ap np cp, .slice Aw nw cw] 65)) := (Below.refl _ _).alloc (Nat.le_refl _) _
  have hs0 : w.heap.size ≤ (w.alloc (.cells #[.slice Ap np cp, .slice Aw nw cw] 65)).heap.size := by simp
  go_enter Tryz.func105, Tryz.ntmps105
  go_wp2
  generalize w.alloc (.cells #[.slice Ap np cp, .slice Aw nw cw] 65) = w0 at *
  generalize hB0 : w.heap.size = B0 at *
  have HB0 := Lib.hid hB0
  clear hB0
  have x0 := fun x : Xt w0 => x.cell b0
  have x1 := fun x : Xt w0 => x.cell b1
  refine wp_region_cut [] [0, 1, 2, 3, 4, 5, 6, 7, 8, 9, 10, 11, 12, 13, 14, 15] 16 [17, 18] (fun w' => ∃ x : Xt w0, w' = x.1) (by kernel_rfl) (by kernel_rfl) ⟨⟨w0.drew, (Below.refl _ _).drew⟩, rfl⟩ ?_
  simp only [opsAt_nil, opsAt_cons, consOpt_some, List.getElem?_toArray, List.getElem?_cons_zero, List.getElem?_cons_succ]
  refine wpQuiet_nil ?_
  show wpQuiet _ _ _ _ _ _
  repeat (go_big_quiet_step (first | (go_at_call 62; exact Xt.calls_same (unless_any _ _ _))))
  refine wpQuiet_nil ?_
  intro w1 hx
  have hb1 := Xt.below hx
  clear hx
  go_wp2_with (go_at_call 61; refine (first2 _ _ _).mono ?_; rintro e w' ⟨rfl, rfl⟩)
  refine onlyNormal_mk ?_
  go_wp2
  go_ret2
  exact ⟨rfl, by rw [HB0.out]; exact (hb0.trans (hb1.mono hs0)).alloc (Nat.le_trans hs0 hb1.size) _⟩
theorem rooms_people (Ap Aw : Option Addr) (np cp nw cw : Nat) (w : World) (B : Nat) (pp : List Int) (h0 : 0 < np) (h1 : np ≤ 6) (hc : nw ≤ 16) (hl : pp.length = np) (hp : Rd w B Ap (intCells pp)) (hBw : B ≤ w.heap.size) (hi : 0 ≤ idxGo notCrowdB pp 0) :
    Calls Tryz.prog 105 #[.agg #[.slice Ap np cp, .slice Aw nw cw]] w fun e w' => e = .returned (.tuple #[.int .i64 (idxGo notCrowdB pp 0), .int .i64 2]) ∧ Below w.heap.size w w' := by
  have HL := Lib.hid hl
  clear hl
  have h1' : (0 : Int) < (np : Int) := by omega
  have h2' : (np : Int) ≤ 6 := by omega
  have h3' : (nw : Int) ≤ 16 := by omega
  have b0 : (w.alloc (.cells #[.slice Ap np cp, .slice Aw nw cw] 65)).cell? ⟨w.heap.size, 0, none⟩ = some (.slice Ap np cp) := by simp
  have b1 : (w.alloc (.cells #[.slice Ap np cp, .slice Aw nw cw] 65)).cell? ⟨w.heap.size, 1, none⟩ = some (.slice Aw nw cw) := by simp
  have hb0 : Below w.heap.size w (w.alloc (.cells #[.slice Ap np cp, .slice Aw nw cw] 65)) := (Below.refl _ _).alloc (Nat.le_refl _) _
  have hs0 : w.heap.size ≤ (w.alloc (.cells #[.slice Ap np cp, .slice Aw nw cw] 65)).heap.size := by simp
  go_enter Tryz.func105, Tryz.ntmps105
  go_wp2
  generalize w.alloc (.cells #[.slice Ap np cp, .slice Aw nw cw] 65) = w0 at *
  generalize hB0 : w.heap.size = B0 at *
  have HB0 := Lib.hid hB0
  clear hB0
  have x0 := fun x : Xt w0 => x.cell b0
  have x1 := fun x : Xt w0 => x.cell b1
  refine wp_region_cut [] [0, 1, 2, 3, 4, 5, 6, 7, 8, 9, 10, 11, 12, 13, 14, 15] 16 [17, 18] (fun w' => ∃ x : Xt w0, w' = x.1) (by kernel_rfl) (by kernel_rfl) ⟨⟨w0.drew, (Below.refl _ _).drew⟩, rfl⟩ ?_
  simp only [opsAt_nil, opsAt_cons, consOpt_some, List.getElem?_toArray, List.getElem?_cons_zero, List.getElem?_cons_succ]
  refine wpQuiet_nil ?_
  show wpQuiet _ _ _ _ _ _
  repeat (go_big_quiet_step (first | (go_at_call 62; exact Xt.calls_same (unless_any _ _ _))))
  refine wpQuiet_nil ?_
  intro w1 hx
  have hb1 := Xt.below hx
  clear hx
  go_wp2_with (go_at_call 61; refine (first2 _ _ _).mono ?_; rintro e w' ⟨he, hw'⟩; rw [show firstE [unlessE true 10, unlessE true 8] = 0 from rfl] at he; subst he)
  refine onlyNormal_mk ?_
  have hb2 : Below B0 w w' := by rw [← hw']; exact (hb0.trans (hb1.mono hs0)).alloc (Nat.le_trans hs0 hb1.size) _
  have hB2 : B0 < w'.heap.size := by
    have h1 := lt_of_cell b0
    have h2 := hb1.size
    rw [← hw']
    simp at h1 ⊢
    omega
  have c0 : w'.cell? ⟨B0, 0, none⟩ = some (.slice Ap np cp) := by rw [← hw']; exact cell_alloc_old _ (kept hb1 b0)
  have c1 : w'.cell? ⟨B0, 1, none⟩ = some (.slice Aw nw cw) := by rw [← hw']; exact cell_alloc_old _ (kept hb1 b1)
  clear hw' hb1 hb0 b0 b1 x0 x1
  have hp' := hp.below (hb2.mono hBw)
  have C := IndexFunc_96 Ap np cp B pp w' (by omega) HL.out hp'
  clear hp hp'
  generalize hix : idxGo notCrowdB pp 0 = ix at *
  have HIX := Lib.hid hix
  clear hix
  go_wp2_with (go_at_call 136; refine C.mono ?_; rintro e w' ⟨rfl, rfl⟩)
  go_ret2
  exact ⟨by rw [HIX.out]; rfl, by rw [HB0.out]; exact hb2⟩
def RoomsPost (w : World) (pp : List Int) (ws : List Ev) (e : Ending) (w' : World) : Prop :=
  e = .returned (.tuple #[.int .i64 (waysGo pp.length ws 0).1, .int .i64 (waysGo pp.length ws 0).2]) ∧ Below w.heap.size w w'
def RoomsRel (B0 nw : Nat) (w : World) (pp : List Int) (ws : List Ev) (Ap Aw : Option Addr) (np cp cw : Nat) (i : Value) (wr : World) : Prop :=
  ∃ k : Nat, k ≤ nw ∧ i = .int .i64 k ∧ waysGo pp.length (ws.drop k) k = waysGo pp.length ws 0 ∧ Below B0 w wr ∧ B0 < wr.heap.size ∧
    wr.cell? ⟨B0, 0, none⟩ = some (.slice Ap np cp) ∧ wr.cell? ⟨B0, 1, none⟩ = some (.slice Aw nw cw)
set_option maxHeartbeats 8000000 in
theorem rooms_loop (Ap Aw : Option Addr) (np cp nw cw : Nat) (w : World) (B : Nat) (pp : List Int) (ws : List Ev) (h0 : 0 < np) (h1 : np ≤ 6) (hc : nw ≤ 16) (hl : pp.length = np) (hlw : ws.length = nw) (hp : Rd w B Ap (intCells pp)) (hw : Rd w B Aw (evCells ws))
    (hBw : B ≤ w.heap.size) (hi : idxGo notCrowdB pp 0 < 0) :
    Calls Tryz.prog 105 #[.agg #[.slice Ap np cp, .slice Aw nw cw]] w (RoomsPost w pp ws) := by
  have HL := Lib.hid hl
  have HW := Lib.hid hlw
  clear hl hlw
  have h1' : (0 : Int) < (np : Int) := by omega
  have h2' : (np : Int) ≤ 6 := by omega
  have h3' : (nw : Int) ≤ 16 := by omega
  have b0 : (w.alloc (.cells #[.slice Ap np cp, .slice Aw nw cw] 65)).cell? ⟨w.heap.size, 0, none⟩ = some (.slice Ap np cp) := by simp
  have b1 : (w.alloc (.cells #[.slice Ap np cp, .slice Aw nw cw] 65)).cell? ⟨w.heap.size, 1, none⟩ = some (.slice Aw nw cw) := by simp
  have hb0 : Below w.heap.size w (w.alloc (.cells #[.slice Ap np cp, .slice Aw nw cw] 65)) := (Below.refl _ _).alloc (Nat.le_refl _) _
  have hs0 : w.heap.size ≤ (w.alloc (.cells #[.slice Ap np cp, .slice Aw nw cw] 65)).heap.size := by simp
  go_enter Tryz.func105, Tryz.ntmps105
  go_wp2
  generalize w.alloc (.cells #[.slice Ap np cp, .slice Aw nw cw] 65) = w0 at *
  generalize hB0 : w.heap.size = B0 at *
  have HB0 := Lib.hid hB0
  clear hB0
  have x0 := fun x : Xt w0 => x.cell b0
  have x1 := fun x : Xt w0 => x.cell b1
  refine wp_region_cut [] [0, 1, 2, 3, 4, 5, 6, 7, 8, 9, 10, 11, 12, 13, 14, 15] 16 [17, 18] (fun w' => ∃ x : Xt w0, w' = x.1) (by kernel_rfl) (by kernel_rfl) ⟨⟨w0.drew, (Below.refl _ _).drew⟩, rfl⟩ ?_
  simp only [opsAt_nil, opsAt_cons, consOpt_some, List.getElem?_toArray, List.getElem?_cons_zero, List.getElem?_cons_succ]
  refine wpQuiet_nil ?_
  show wpQuiet _ _ _ _ _ _
  repeat (go_big_quiet_step (first | (go_at_call 62; exact Xt.calls_same (unless_any _ _ _))))
  refine wpQuiet_nil ?_
  intro w1 hx
  have hb1 := Xt.below hx
  clear hx
  go_wp2_with (go_at_call 61; refine (first2 _ _ _).mono ?_; rintro e w' ⟨he, hw'⟩; rw [show firstE [unlessE true 10, unlessE true 8] = 0 from rfl] at he; subst he)
  refine onlyNormal_mk ?_
  have hb2 : Below B0 w w' := by rw [← hw']; exact (hb0.trans (hb1.mono hs0)).alloc (Nat.le_trans hs0 hb1.size) _
  have hB2 : B0 < w'.heap.size := by
    have h1 := lt_of_cell b0
    have h2 := hb1.size
    rw [← hw']
    simp at h1 ⊢
    omega
  have c0 : w'.cell? ⟨B0, 0, none⟩ = some (.slice Ap np cp) := by rw [← hw']; exact cell_alloc_old _ (kept hb1 b0)
  have c1 : w'.cell? ⟨B0, 1, none⟩ = some (.slice Aw nw cw) := by rw [← hw']; exact cell_alloc_old _ (kept hb1 b1)
  clear hw' hb1 hb0 b0 b1 x0 x1
  have hp' := hp.below (hb2.mono hBw)
  have C := IndexFunc_96 Ap np cp B pp w' (by omega) HL.out hp'
  have hnp : np ≤ 1000000000 := by omega
  clear hp hp'
  generalize idxGo notCrowdB pp 0 = ix at *
  go_wp2_with (go_at_call 136; refine C.mono ?_; rintro e w' ⟨rfl, rfl⟩)
  clear C
  go_loopw [41] (fun i wr => RoomsRel B0 nw w pp ws Ap Aw np cp cw i wr) (fun i _ => nw - (intOf i).toNat)
  case atStart => exact ⟨0, Nat.zero_le _, rfl, rfl, hb2, hB2, c0, c1⟩
  case round =>
    obtain ⟨k, hk, rfl, he, hbr, hBr, r0', r1'⟩ := hrel
    have HE := Lib.hid he
    clear he hb2 hB2 c0 c1
    by_cases hlt : k < nw
    · have hkl : k < ws.length := by rw [HW.out]; exact hlt
      obtain ⟨z0, z1, z2⟩ := evCells_at ws k (ws[k]) (by simp [hkl])
      have HD := Lib.hid (List.drop_eq_getElem_cons hkl)
      generalize ws[k] = ev at *
      obtain ⟨b, off, rfl, hbB, d0, d1, d2⟩ := hw.at3 z0 z1 z2
      have e0 := keptB hbr (p := ⟨b, off + k * 3, none⟩) (by show b < _; omega) d0
      have e1 := keptB hbr (p := ⟨b, off + k * 3 + 1, none⟩) (by show b < _; omega) d1
      have e2 := keptB hbr (p := ⟨b, off + k * 3 + 2, none⟩) (by show b < _; omega) d2
      clear z0 z1 z2 d0 d1 d2 hw hkl
      go_wp2_with fail
      have g0 : (wr.alloc (.cells #[.int .i64 ev.1, .int .i64 ev.2.1, .int .i64 ev.2.2] 146)).cell? ⟨wr.heap.size, 0, none⟩ = some (.int .i64 ev.1) := by simp
      have g1 : (wr.alloc (.cells #[.int .i64 ev.1, .int .i64 ev.2.1, .int .i64 ev.2.2] 146)).cell? ⟨wr.heap.size, 1, none⟩ = some (.int .i64 ev.2.1) := by simp
      have g2 : (wr.alloc (.cells #[.int .i64 ev.1, .int .i64 ev.2.1, .int .i64 ev.2.2] 146)).cell? ⟨wr.heap.size, 2, none⟩ = some (.int .i64 ev.2.2) := by simp
      have r0 := cell_alloc_old (.cells #[.int .i64 ev.1, .int .i64 ev.2.1, .int .i64 ev.2.2] 146) r0'
      have r1 := cell_alloc_old (.cells #[.int .i64 ev.1, .int .i64 ev.2.1, .int .i64 ev.2.2] 146) r1'
      have hb3 : Below B0 w (wr.alloc (.cells #[.int .i64 ev.1, .int .i64 ev.2.1, .int .i64 ev.2.2] 146)) := hbr.alloc (by omega) _
      have hB3 : B0 < (wr.alloc (.cells #[.int .i64 ev.1, .int .i64 ev.2.1, .int .i64 ev.2.2] 146)).heap.size := by simp; omega
      clear r0' r1' hbr
      generalize (wr.alloc (.cells #[.int .i64 ev.1, .int .i64 ev.2.1, .int .i64 ev.2.2] 146)) = w3 at *
      generalize wr.heap.size = gl at *
      have x0 := fun x : Xt w3 => x.cell g0
      have x1 := fun x : Xt w3 => x.cell g1
      have x2 := fun x : Xt w3 => x.cell g2
      have hr : ∃ er, wayE np ev = er := ⟨_, rfl⟩
      cases a1 : isRoomB np ev.1 <;> cases a2 : (ev.2.1 == -1) <;> rcases Int.lt_or_le 0 ev.2.2 with a3 | a3
      all_goals
        have a3' : decide (0 < ev.2.2) = decide (0 < ev.2.2) := rfl
        first
          | (have a4 : decide (0 < ev.2.2) = true := by simp; omega)
          | (have a4 : decide (0 < ev.2.2) = false := by simp; omega)
        clear a3'
        refine wp_region_cut [] [0, 1, 2, 3, 4, 5, 6, 7, 8, 9, 10, 11, 12, 13, 14, 15, 16, 17, 18, 19, 20, 21, 22, 23, 24, 25, 26, 27, 28, 29, 30] 31 [32, 33] (fun w' => ∃ x : Xt w3, w' = x.1) (by kernel_rfl) (by kernel_rfl) ⟨⟨w3.drew, (Below.refl _ _).drew⟩, rfl⟩ ?_
        simp only [opsAt_nil, opsAt_cons, consOpt_some, List.getElem?_toArray, List.getElem?_cons_zero, List.getElem?_cons_succ]
        refine wpQuiet_nil ?_
        show wpQuiet _ _ _ _ _ _
        repeat (go_big_quiet_step (first | (go_at_call 62; exact Xt.calls_same (unless_any _ _ _)) | (go_at_call 138; exact Xt.calls_same (isCrowd_any _ _)) | (go_at_call 139; exact Xt.calls_same (isRoom_val _ _ _ _ _ _ _ a1 hnp (Xt.cell _ r0))) | (go_at_call 139; exact Xt.calls_same (isRoom_any _ _ _ _ _ _ hnp (Xt.cell _ r0)))))
        refine wpQuiet_nil ?_
        intro w4 hx
        have hb4 := Xt.below hx
        clear hx
        have hb5 : Below B0 w w4 := hb3.trans (hb4.mono (by omega))
        have r0q := kept hb4 r0
        have r1q := kept hb4 r1
        have hB5 : B0 < w4.heap.size := lt_of_cell r0q
        clear x0 x1 x2 g0 g1 g2 r0 r1 hb3 hb4
        go_wp2_with (go_at_call 61; refine (first3 _ _ _ _).mono ?_; rintro e w' ⟨rfl, rfl⟩)
        refine onlyNormal_mk ?_
        generalize hE : firstE _ = E
        have hev : wayE np ev = E := by rw [← hE]; simp [wayE, a1, a2, a4]
        have HEV := Lib.hid hev
        clear hev hE hr
        cases hz : (E != 0)
        · have hE0 : E = 0 := by simpa using hz
          have HE0 := Lib.hid hE0
          clear hE0
          go_wp2
          go_roundw
          case rel => exact ⟨k + 1, by omega, by go_num, by rw [← HE.out, HD.out, waysGo, HL.out, HEV.out, if_pos HE0.out], hb5.alloc (by omega) _, by simp; omega, cell_alloc_old _ r0q, cell_alloc_old _ r1q⟩
          case measure => simp [intOf]; omega
        · have hE0 : ¬ E = 0 := by simpa using hz
          have HE0 := Lib.hid hE0
          clear hE0
          go_wp2
          go_ret2
          exact ⟨by rw [← HE.out, HD.out, waysGo, HL.out, HEV.out, if_neg HE0.out]; rfl, by rw [HB0.out]; exact hb5.alloc (by omega) _⟩
    · go_wp2
      go_ret2
      have hd : ws.drop k = [] := by rw [List.drop_eq_nil_iff]; rw [HW.out]; omega
      exact ⟨by rw [← HE.out, hd]; rfl, by rw [HB0.out]; exact hbr⟩
end Go.Proofs.YtlbgocgocanloaaGreatDoor
