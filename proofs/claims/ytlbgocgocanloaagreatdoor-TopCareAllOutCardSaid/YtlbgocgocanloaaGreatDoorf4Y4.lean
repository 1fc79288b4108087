/- open: the first errors. -/
import Derived.Test.YtlbgocgocanloaaGreatDoorf4Y1
import Derived.Test.YtlbgocgocanloaaGreatDoorf4C6
import Derived.Test.YtlbgocgocanloaaGreatDoorf4X3
namespace Go.Proofs.YtlbgocgocanloaaGreatDoor
open Go.RowKit
/-- the errors that open finds first -/
def preE (D T S pl : Int) (ng nd : Nat) : Int := firstE [doorsE D T S, placeE pl, unlessE (decide ((ng : Int) = D) && decide ((nd : Int) = D)) 10]
def OpenNo (w : World) (E : Int) (e : Ending) (w' : World) : Prop := e = .returned (.tuple #[.pointer none, .int .i64 E]) ∧ Below w.heap.size w w'
set_option maxHeartbeats 4000000 in
theorem openT_no (w : World) (D T S : Int) (Ag Ad : Option Addr) (ng nd cg cd : Nat) (s : Tr) (_n1 : ng ≤ 1000000000) (_n2 : nd ≤ 1000000000) (h0 : preE D T S s.place ng nd ≠ 0) :
    Calls Tryz.prog 68 #[.agg #[.int .i64 D, .int .i64 T, .int .i64 S], stV s Ag Ad ng nd cg cd] w (OpenNo w (preE D T S s.place ng nd)) := by
  obtain ⟨mv, al, pl, gs, ds⟩ := s
  have h0' : preE D T S pl ng nd ≠ 0 := h0
  show Calls Tryz.prog 68 #[.agg #[.int .i64 D, .int .i64 T, .int .i64 S], stV ⟨mv, al, pl, gs, ds⟩ Ag Ad ng nd cg cd] w (OpenNo w (preE D T S pl ng nd))
  clear h0
  have hb0 : Below w.heap.size w ((w.alloc (.cells #[.int .i64 D, .int .i64 T, .int .i64 S] 40)).alloc (.cells #[.bool mv, .bool al, .int .i64 pl, .slice Ag ng cg, .slice Ad nd cd] 52)) :=
    ((Below.refl _ _).alloc (Nat.le_refl _) _).alloc (by simp) _
  have k0 : ((w.alloc (.cells #[.int .i64 D, .int .i64 T, .int .i64 S] 40)).alloc (.cells #[.bool mv, .bool al, .int .i64 pl, .slice Ag ng cg, .slice Ad nd cd] 52)).heap[w.heap.size]? = some (.cells #[.int .i64 D, .int .i64 T, .int .i64 S] 40 (0, 0)) := by
    rw [heapq_alloc, if_neg (by simp), heapq_alloc, if_pos rfl]
  have k1 : ((w.alloc (.cells #[.int .i64 D, .int .i64 T, .int .i64 S] 40)).alloc (.cells #[.bool mv, .bool al, .int .i64 pl, .slice Ag ng cg, .slice Ad nd cd] 52)).heap[w.heap.size + 1]? = some (.cells #[.bool mv, .bool al, .int .i64 pl, .slice Ag ng cg, .slice Ad nd cd] 52 (0, 0)) := by
    rw [heapq_alloc, if_pos (by simp)]
  obtain ⟨d0, d1, d2⟩ := cells3w k0
  obtain ⟨c0, c1, c2, c3, c4⟩ := cells5 k1
  have HB := Lib.hid hb0
  have hs1 : w.heap.size ≤ ((w.alloc (.cells #[.int .i64 D, .int .i64 T, .int .i64 S] 40)).alloc (.cells #[.bool mv, .bool al, .int .i64 pl, .slice Ag ng cg, .slice Ad nd cd] 52)).heap.size := by simp; omega
  clear k0 k1 hb0
  simp only [stV]
  have hne : (preE D T S pl ng nd != 0) = true := bne_iff_ne.2 h0'
  go_enter Tryz.func68, Tryz.ntmps68
  go_upto_region 1 with (fail)
  generalize ((w.alloc (.cells #[.int .i64 D, .int .i64 T, .int .i64 S] 40)).alloc (.cells #[.bool mv, .bool al, .int .i64 pl, .slice Ag ng cg, .slice Ad nd cd] 52)) = w0 at *
  have x0 := fun x : Xt w0 => x.cell d0
  have x1 := fun x : Xt w0 => x.cell d1
  have x2 := fun x : Xt w0 => x.cell d2
  have y2 := fun x : Xt w0 => x.cell c2
  have y3 := fun x : Xt w0 => x.cell c3
  have y4 := fun x : Xt w0 => x.cell c4
  by_cases e1 : (ng : Int) = D
  · have e1' : ((ng : Int) == D) = true := beq_iff_eq.2 e1
    by_cases e2 : (nd : Int) = D
    · have e2' : ((nd : Int) == D) = true := beq_iff_eq.2 e2
      have HV : Hid (preE D T S pl ng nd = firstE [doorsE D T S, placeE pl, unlessE true 10]) := by simp [Hid, preE, e1, e2]
      rw [HV.out] at hne
      clear e1 e2
      refine wp_region_cut [] [0, 1, 2, 3, 4, 5, 6, 7, 8, 9, 10, 11, 12, 13, 14, 15, 16, 17, 18, 19] 20 [21, 22] (fun w' => ∃ x : Xt w0, w' = x.1) (by kernel_rfl) (by kernel_rfl) ⟨⟨w0.drew, (Below.refl _ _).drew⟩, rfl⟩ ?_
      simp only [opsAt_nil, opsAt_cons, consOpt_some, List.getElem?_toArray, List.getElem?_cons_zero, List.getElem?_cons_succ]
      refine wpQuiet_nil ?_
      show wpQuiet _ _ _ _ _ _
      repeat (go_big_quiet_step (first | (go_at_call 97; exact Xt.calls (CheckDoors_any _ _ _ _)) | (go_at_call 98; exact Xt.calls_same (placeErr_any _ _)) | (go_at_call 62; exact Xt.calls_same (unless_any _ _ _))))
      refine wpQuiet_nil ?_
      intro w1 hx
      have hb1 := Xt.below hx
      clear hx x0 x1 x2 y2 y3 y4
      go_wp2_with (go_at_call 61; refine (first3 _ _ _ _).mono ?_; rintro e w' ⟨rfl, rfl⟩)
      refine onlyNormal_mk ?_
      go_wp2
      go_ret2
      exact ⟨by rw [HV.out]; rfl, (HB.out.trans (hb1.mono hs1)).alloc (Nat.le_trans hs1 hb1.size) _⟩
    · have e2' : ((nd : Int) == D) = false := beq_eq_false_iff_ne.2 e2
      have HV : Hid (preE D T S pl ng nd = firstE [doorsE D T S, placeE pl, unlessE false 10]) := by simp [Hid, preE, e2]
      rw [HV.out] at hne
      clear e1 e2
      refine wp_region_cut [] [0, 1, 2, 3, 4, 5, 6, 7, 8, 9, 10, 11, 12, 13, 14, 15, 16, 17, 18, 19] 20 [21, 22] (fun w' => ∃ x : Xt w0, w' = x.1) (by kernel_rfl) (by kernel_rfl) ⟨⟨w0.drew, (Below.refl _ _).drew⟩, rfl⟩ ?_
      simp only [opsAt_nil, opsAt_cons, consOpt_some, List.getElem?_toArray, List.getElem?_cons_zero, List.getElem?_cons_succ]
      refine wpQuiet_nil ?_
      show wpQuiet _ _ _ _ _ _
      repeat (go_big_quiet_step (first | (go_at_call 97; exact Xt.calls (CheckDoors_any _ _ _ _)) | (go_at_call 98; exact Xt.calls_same (placeErr_any _ _)) | (go_at_call 62; exact Xt.calls_same (unless_any _ _ _))))
      refine wpQuiet_nil ?_
      intro w1 hx
      have hb1 := Xt.below hx
      clear hx x0 x1 x2 y2 y3 y4
      go_wp2_with (go_at_call 61; refine (first3 _ _ _ _).mono ?_; rintro e w' ⟨rfl, rfl⟩)
      refine onlyNormal_mk ?_
      go_wp2
      go_ret2
      exact ⟨by rw [HV.out]; rfl, (HB.out.trans (hb1.mono hs1)).alloc (Nat.le_trans hs1 hb1.size) _⟩
  · have e1' : ((ng : Int) == D) = false := beq_eq_false_iff_ne.2 e1
    have HV : Hid (preE D T S pl ng nd = firstE [doorsE D T S, placeE pl, unlessE false 10]) := by simp [Hid, preE, e1]
    rw [HV.out] at hne
    clear e1
    refine wp_region_cut [] [0, 1, 2, 3, 4, 5, 6, 7, 8, 9, 10, 11, 12, 13, 14, 15, 16, 17, 18, 19] 20 [21, 22] (fun w' => ∃ x : Xt w0, w' = x.1) (by kernel_rfl) (by kernel_rfl) ⟨⟨w0.drew, (Below.refl _ _).drew⟩, rfl⟩ ?_
    simp only [opsAt_nil, opsAt_cons, consOpt_some, List.getElem?_toArray, List.getElem?_cons_zero, List.getElem?_cons_succ]
    refine wpQuiet_nil ?_
    show wpQuiet _ _ _ _ _ _
    repeat (go_big_quiet_step (first | (go_at_call 97; exact Xt.calls (CheckDoors_any _ _ _ _)) | (go_at_call 98; exact Xt.calls_same (placeErr_any _ _)) | (go_at_call 62; exact Xt.calls_same (unless_any _ _ _))))
    refine wpQuiet_nil ?_
    intro w1 hx
    have hb1 := Xt.below hx
    clear hx x0 x1 x2 y2 y3 y4
    go_wp2_with (go_at_call 61; refine (first3 _ _ _ _).mono ?_; rintro e w' ⟨rfl, rfl⟩)
    refine onlyNormal_mk ?_
    go_wp2
    go_ret2
    exact ⟨by rw [HV.out]; rfl, (HB.out.trans (hb1.mono hs1)).alloc (Nat.le_trans hs1 hb1.size) _⟩
end Go.Proofs.YtlbgocgocanloaaGreatDoor

/- open at what it does not refuse at once. -/
namespace Go.Proofs.YtlbgocgocanloaaGreatDoor
open Go.RowKit
def CloneBPost (w : World) (l : List Bool) (n : Nat) (e : Ending) (w' : World) : Prop :=
  ∃ k cap, e = .returned (.slice (some ⟨k, 0, none⟩) n cap) ∧ w'.ownsRow w.heap.size 4 1 (.slice (some ⟨k, 0, none⟩) n cap) n (l.map .bool) ∧ Below w.heap.size w w'
theorem CloneB (w : World) (b off n c : Nat) (l : List Bool) (hl : l.length = n) (h1 : 1 ≤ n) (hn : n ≤ 1000000) (B : Nat) (h : Rd w B (some ⟨b, off, none⟩) (l.map .bool)) :
    Calls Tryz.prog 100 #[.slice (some ⟨b, off, none⟩) n c] w (CloneBPost w l n) := by
  obtain ⟨i0, hi, he⟩ := Option.map_eq_some_iff.1 info4
  simp only [Prod.mk.injEq] at he
  refine (Tryz.slices_Clone_f100 i0 (.bool false) 1 1 hi he.1 he.2.1 he.2.2 rfl (by omega) (fun W => Tryz.sizeOf4 W) b off n c (l.map .bool) w (by simp [hl]) (by simp only [maxLen]; omega) (by omega) (fun j u hj => ?_) (bools_one l)).mono ?_
  · obtain ⟨b', off', hA, _, hc⟩ := h j u hj
    simp only [Option.some.injEq, Addr.mk.injEq, and_true] at hA
    obtain ⟨rfl, rfl⟩ := hA
    exact hc
  · rintro e w' ⟨v', rfl, ho, hne, hb⟩
    rcases ho.2 with ⟨_, h0⟩ | ⟨g, cap, cur, rfl, _⟩
    · omega
    · exact ⟨g, cap, rfl, ho, hb⟩
/-- the errors that open finds behind its copy -/
def postE (T S : Int) (s : Tr) : Int := firstE [unlessE (!s.mv || !isOpenB s) 23, unlessE (inPlaceB T S s.place || !hasB s.gates true) 9, unlessE (s.al || !bareB s) 17]
def OpenYes (w : World) (D : Nat) (T S : Int) (s : Tr) (e : Ending) (w' : World) : Prop :=
  ∃ g bg bd cg cd, e = .returned (.tuple #[.pointer (some ⟨g, 0, none⟩), .int .i64 (postE T S s)]) ∧ TrainAt w' w.heap.size g bg bd cg cd D T S s ∧ Below w.heap.size w w'
theorem inPlaceAt_val {B g bg bd cg cd D : Nat} {T S : Int} {s : Tr} (b : Bool) (hb : inPlaceB T S s.place = b) (w : World) (h : TrainAt w B g bg bd cg cd D T S s)
    (hp : 0 ≤ s.place ∧ s.place ≤ 1000000000) (hT : 0 ≤ T ∧ T ≤ 1000000000) :
    Calls Tryz.prog 102 #[.pointer (some ⟨g, 0, none⟩)] w fun e w' => e = .returned (.bool b) ∧ Below w.heap.size w w' := by
  rw [← hb]
  exact inPlace_any w h hp hT
theorem rd_some {w : World} {B n : Nat} {A : Option Addr} {l : List Bool} (h : Rd w B A (l.map .bool)) (hl : l.length = n) (h1 : 1 ≤ n) : ∃ b off, A = some ⟨b, off, none⟩ := by
  obtain ⟨b, off, hA, _⟩ := h.at_ (k := 0) (u := .bool (l[0]?.getD false)) (by
    have : 0 < l.length := by omega
    simp [this])
  exact ⟨b, off, hA⟩
theorem train_of_clone {w2 w3 w4 : World} {g k1 k2 c1 c2 D t0 : Nat} {T S pl : Int} {mv al : Bool} {gs ds : List Bool} {v3 v4 : Value} (hg : w2.heap[g]? = some (.cells #[.bool mv, .bool al, .int .i64 pl, v3, v4, .int .i64 D, .int .i64 T, .int .i64 S] 129 (0, 0)))
    (h23 : Below w2.heap.size w2 w3) (h34 : Below w3.heap.size w3 w4) (ht0 : t0 ≤ g)
    (o1 : w3.ownsRow w2.heap.size 4 1 (.slice (some ⟨k1, 0, none⟩) D c1) D (gs.map .bool)) (o2 : w4.ownsRow w3.heap.size 4 1 (.slice (some ⟨k2, 0, none⟩) D c2) D (ds.map .bool)) :
    TrainAt ((w4.setCell ⟨g, 3, none⟩ (.slice (some ⟨k1, 0, none⟩) D c1)).setCell ⟨g, 4, none⟩ (.slice (some ⟨k2, 0, none⟩) D c2)) t0 g k1 k2 c1 c2 D T S ⟨mv, al, pl, gs, ds⟩ := by
  have lg := lt_of_block hg
  have b1 : w2.heap.size ≤ k1 ∧ k1 < w3.heap.size := ⟨(ownBlk o1 rfl).1, (ownBlk o1 rfl).2.1⟩
  have b2 : w3.heap.size ≤ k2 ∧ k2 < w4.heap.size := ⟨(ownBlk o2 rfl).1, (ownBlk o2 rfl).2.1⟩
  have s23 := h23.size
  have n1 : some k1 ≠ some g := fun he => by have := Option.some.inj he; omega
  have n2 : some k2 ≠ some g := fun he => by have := Option.some.inj he; omega
  refine ⟨?_, ?_, ?_, by omega, ht0⟩
  · rw [heapq_set, if_pos rfl, heapq_set, if_pos rfl, (h34.block g (by omega)).trans ((h23.block g lg).trans hg)]
    rfl
  · exact ownsRow_more (ownsRow_setCell_other (ownsRow_setCell_other (ownsRow_below o1 h34) (a := ⟨g, 3, none⟩) n1 _) (a := ⟨g, 4, none⟩) n1 _) (by omega)
  · exact ownsRow_more (ownsRow_setCell_other (ownsRow_setCell_other o2 (a := ⟨g, 3, none⟩) n2 _) (a := ⟨g, 4, none⟩) n2 _) (by omega)
set_option maxRecDepth 100000 in
set_option maxHeartbeats 8000000 in
theorem openT_yes (w : World) (B D : Nat) (T S : Int) (Ag Ad : Option Addr) (cg cd : Nat) (s : Tr) (h : StAt w B Ag Ad D D s) (hB : B ≤ w.heap.size) (h0 : preE D T S s.place D D = 0) :
    Calls Tryz.prog 68 #[.agg #[.int .i64 D, .int .i64 T, .int .i64 S], stV s Ag Ad D D cg cd] w (OpenYes w D T S s) := by
  obtain ⟨mv, al, pl, gs, ds⟩ := s
  have h0' : preE D T S pl D D = 0 := h0
  have z := h0'
  unfold preE at z
  simp only [firstE_cons, firstE_nil, and_true] at z
  obtain ⟨⟨z1, z2⟩, z3, z4⟩ := doorsE_zero z.1
  have zp := placeE_zero z.2.1
  obtain ⟨bG, oG, rfl⟩ := rd_some h.rg h.lg (by omega)
  obtain ⟨bD, oD, rfl⟩ := rd_some h.rd h.ld (by omega)
  clear h0 z z4
  have hb0 : Below w.heap.size w ((w.alloc (.cells #[.int .i64 D, .int .i64 T, .int .i64 S] 40)).alloc (.cells #[.bool mv, .bool al, .int .i64 pl, .slice (some ⟨bG, oG, none⟩) D cg, .slice (some ⟨bD, oD, none⟩) D cd] 52)) :=
    ((Below.refl _ _).alloc (Nat.le_refl _) _).alloc (by simp) _
  have k0 : ((w.alloc (.cells #[.int .i64 D, .int .i64 T, .int .i64 S] 40)).alloc (.cells #[.bool mv, .bool al, .int .i64 pl, .slice (some ⟨bG, oG, none⟩) D cg, .slice (some ⟨bD, oD, none⟩) D cd] 52)).heap[w.heap.size]? = some (.cells #[.int .i64 D, .int .i64 T, .int .i64 S] 40 (0, 0)) := by
    rw [heapq_alloc, if_neg (by simp), heapq_alloc, if_pos rfl]
  have k1 : ((w.alloc (.cells #[.int .i64 D, .int .i64 T, .int .i64 S] 40)).alloc (.cells #[.bool mv, .bool al, .int .i64 pl, .slice (some ⟨bG, oG, none⟩) D cg, .slice (some ⟨bD, oD, none⟩) D cd] 52)).heap[w.heap.size + 1]? = some (.cells #[.bool mv, .bool al, .int .i64 pl, .slice (some ⟨bG, oG, none⟩) D cg, .slice (some ⟨bD, oD, none⟩) D cd] 52 (0, 0)) := by
    rw [heapq_alloc, if_pos (by simp)]
  have h1 := h.below (hb0.mono hB)
  have lG : gs.length = D := h.lg
  have lD : ds.length = D := h.ld
  obtain ⟨d0, d1, d2⟩ := cells3w k0
  obtain ⟨c0, c1, c2, c3, c4⟩ := cells5 k1
  have HB := Lib.hid hb0
  have HS := Lib.hid h1
  have HLG := Lib.hid lG
  have HLD := Lib.hid lD
  have hs1 : w.heap.size ≤ ((w.alloc (.cells #[.int .i64 D, .int .i64 T, .int .i64 S] 40)).alloc (.cells #[.bool mv, .bool al, .int .i64 pl, .slice (some ⟨bG, oG, none⟩) D cg, .slice (some ⟨bD, oD, none⟩) D cd] 52)).heap.size := by simp; omega
  have hs2 : w.heap.size + 1 < ((w.alloc (.cells #[.int .i64 D, .int .i64 T, .int .i64 S] 40)).alloc (.cells #[.bool mv, .bool al, .int .i64 pl, .slice (some ⟨bG, oG, none⟩) D cg, .slice (some ⟨bD, oD, none⟩) D cd] 52)).heap.size := by simp
  have hs0 : B ≤ ((w.alloc (.cells #[.int .i64 D, .int .i64 T, .int .i64 S] 40)).alloc (.cells #[.bool mv, .bool al, .int .i64 pl, .slice (some ⟨bG, oG, none⟩) D cg, .slice (some ⟨bD, oD, none⟩) D cd] 52)).heap.size := by omega
  clear k0 k1 hb0 h h1 lG lD
  simp only [stV]
  have hne : (firstE [doorsE D T S, placeE pl, unlessE true 10] != 0) = false := by
    have : preE D T S pl D D = firstE [doorsE D T S, placeE pl, unlessE true 10] := by simp [preE]
    rw [← this, h0']
    rfl
  clear h0'
  go_enter Tryz.func68, Tryz.ntmps68
  go_upto_region 1 with (fail)
  generalize ((w.alloc (.cells #[.int .i64 D, .int .i64 T, .int .i64 S] 40)).alloc (.cells #[.bool mv, .bool al, .int .i64 pl, .slice (some ⟨bG, oG, none⟩) D cg, .slice (some ⟨bD, oD, none⟩) D cd] 52)) = w0 at *
  have x0 := fun x : Xt w0 => x.cell d0
  have x1 := fun x : Xt w0 => x.cell d1
  have x2 := fun x : Xt w0 => x.cell d2
  have y2 := fun x : Xt w0 => x.cell c2
  have y3 := fun x : Xt w0 => x.cell c3
  have y4 := fun x : Xt w0 => x.cell c4
  refine wp_region_cut [] [0, 1, 2, 3, 4, 5, 6, 7, 8, 9, 10, 11, 12, 13, 14, 15, 16, 17, 18, 19] 20 [21, 22] (fun w' => ∃ x : Xt w0, w' = x.1) (by kernel_rfl) (by kernel_rfl) ⟨⟨w0.drew, (Below.refl _ _).drew⟩, rfl⟩ ?_
  simp only [opsAt_nil, opsAt_cons, consOpt_some, List.getElem?_toArray, List.getElem?_cons_zero, List.getElem?_cons_succ]
  refine wpQuiet_nil ?_
  show wpQuiet _ _ _ _ _ _
  repeat (go_big_quiet_step (first | (go_at_call 97; exact Xt.calls (CheckDoors_any _ _ _ _)) | (go_at_call 98; exact Xt.calls_same (placeErr_any _ _)) | (go_at_call 62; exact Xt.calls_same (unless_any _ _ _))))
  refine wpQuiet_nil ?_
  intro w1 hx
  have hb1 := Xt.below hx
  have d0' := cell_alloc_old (.cells #[.int .i64 (doorsE D T S), .int .i64 (placeE pl), .int .i64 (unlessE true 10)] 29) (kept hb1 d0)
  have d1' := cell_alloc_old (.cells #[.int .i64 (doorsE D T S), .int .i64 (placeE pl), .int .i64 (unlessE true 10)] 29) (kept hb1 d1)
  have d2' := cell_alloc_old (.cells #[.int .i64 (doorsE D T S), .int .i64 (placeE pl), .int .i64 (unlessE true 10)] 29) (kept hb1 d2)
  have c0' := cell_alloc_old (.cells #[.int .i64 (doorsE D T S), .int .i64 (placeE pl), .int .i64 (unlessE true 10)] 29) (kept hb1 c0)
  have c1' := cell_alloc_old (.cells #[.int .i64 (doorsE D T S), .int .i64 (placeE pl), .int .i64 (unlessE true 10)] 29) (kept hb1 c1)
  have c2' := cell_alloc_old (.cells #[.int .i64 (doorsE D T S), .int .i64 (placeE pl), .int .i64 (unlessE true 10)] 29) (kept hb1 c2)
  have c3' := cell_alloc_old (.cells #[.int .i64 (doorsE D T S), .int .i64 (placeE pl), .int .i64 (unlessE true 10)] 29) (kept hb1 c3)
  have c4' := cell_alloc_old (.cells #[.int .i64 (doorsE D T S), .int .i64 (placeE pl), .int .i64 (unlessE true 10)] 29) (kept hb1 c4)
  clear hx x0 x1 x2 y2 y3 y4
  go_wp2_with (go_at_call 61; refine (first3 _ _ _ _).mono ?_; rintro e w' ⟨rfl, rfl⟩)
  refine onlyNormal_mk ?_
  have hbX : Below w0.heap.size w0 (w1.alloc (.cells #[.int .i64 (doorsE D T S), .int .i64 (placeE pl), .int .i64 (unlessE true 10)] 29)) := hb1.alloc hb1.size _
  generalize w1.alloc (.cells #[.int .i64 (doorsE D T S), .int .i64 (placeE pl), .int .i64 (unlessE true 10)] 29) = wX at *
  go_upto_region 5 with (fail)
  have hg : (wX.alloc (.cells #[.bool mv, .bool al, .int .i64 pl, .slice (some ⟨bG, oG, none⟩) D cg, .slice (some ⟨bD, oD, none⟩) D cd, .int .i64 D, .int .i64 T, .int .i64 S] 129)).heap[wX.heap.size]? = some (.cells #[.bool mv, .bool al, .int .i64 pl, .slice (some ⟨bG, oG, none⟩) D cg, .slice (some ⟨bD, oD, none⟩) D cd, .int .i64 D, .int .i64 T, .int .i64 S] 129 (0, 0)) := by rw [heapq_alloc, if_pos rfl]
  have hb2 : Below w0.heap.size w0 (wX.alloc (.cells #[.bool mv, .bool al, .int .i64 pl, .slice (some ⟨bG, oG, none⟩) D cg, .slice (some ⟨bD, oD, none⟩) D cd, .int .i64 D, .int .i64 T, .int .i64 S] 129)) := hbX.alloc hbX.size _
  have e3 := kept hb2 c3
  have e4 := kept hb2 c4
  have hgw : w.heap.size + 1 < wX.heap.size := Nat.lt_of_lt_of_le hs2 hbX.size
  clear d0 d1 d2 c0 c1 c2 c3 c4 d0' d1' d2' c0' c1' c2' c3' c4' hb1 hbX
  generalize wX.alloc (.cells #[.bool mv, .bool al, .int .i64 pl, .slice (some ⟨bG, oG, none⟩) D cg, .slice (some ⟨bD, oD, none⟩) D cd, .int .i64 D, .int .i64 T, .int .i64 S] 129) = w2 at *
  generalize wX.heap.size = g at *
  have x3 := fun x : Xt w2 => x.cell e3
  have x4 := fun x : Xt w2 => x.cell e4
  refine wp_region_mid [0, 1, 2, 5] [3, 6] 2 [8, 9, 10, 11, 12, 13, 14, 15] (fun w' => ∃ x : Xt w2, w' = x.1) (by kernel_rfl) (by kernel_rfl) ⟨⟨w2.drew, (Below.refl _ _).drew⟩, rfl⟩ ?_
  simp only [opsAt_nil, opsAt_cons, consOpt_some, List.getElem?_toArray, List.getElem?_cons_zero, List.getElem?_cons_succ]
  repeat (go_big_quiet_step (fail))
  refine wpQuiet_nil ?_
  show wpQuiet _ _ _ _ _ _
  repeat (go_big_quiet_step (fail))
  refine wpQuiet_nil ?_
  have hbd : Below w2.heap.size w2 w2.drew := (Below.refl _ _).drew
  show wpOrders _ _ _ _ _ _ _ _ w2.drew
  generalize w2.drew = wd at *
  have HSd := HS.out.below ((hb2.mono hs0).trans (hbd.mono (Nat.le_trans hs0 hb2.size)))
  refine wpOrders_one (i := 4) (by kernel_rfl) ?_
  unfold wpMid
  simp only [opsAt_nil, opsAt_cons, consOpt_some, List.getElem?_toArray, List.getElem?_cons_zero, List.getElem?_cons_succ]
  go_wp2_with (go_at_call 100; refine (CloneB wd bG oG D cg gs HLG.out (by omega) (by omega) B HSd.rg).mono ?_; rintro e w3 ⟨k1, m1, rfl, o1, hb3⟩)
  have hb23 : Below w2.heap.size w2 w3 := hbd.trans (hb3.mono hbd.size)
  refine onlyNormal_mk ⟨⟨⟨_, hb23⟩, rfl⟩, ?_⟩
  refine wpOrders_one (i := 7) (by kernel_rfl) ?_
  unfold wpMid
  simp only [opsAt_nil, opsAt_cons, consOpt_some, List.getElem?_toArray, List.getElem?_cons_zero, List.getElem?_cons_succ]
  have HS3 := HSd.below (hb3.mono (Nat.le_trans hs0 (Nat.le_trans hb2.size hbd.size)))
  go_wp2_with (go_at_call 100; refine (CloneB w3 bD oD D cd ds HLD.out (by omega) (by omega) B HS3.rd).mono ?_; rintro e w4 ⟨k2, m2, rfl, o2, hb4⟩)
  refine onlyNormal_mk ⟨⟨⟨_, hb23.trans (hb4.mono hb23.size)⟩, rfl⟩, ?_⟩
  refine wpOrders_zero ?_
  have hg4 := (hb4.block g (Nat.lt_of_lt_of_le (lt_of_block hg) hb23.size)).trans ((hb23.block g (lt_of_block hg)).trans hg)
  have f3 := frozen_of_row w4 g 3 _ _ hg4
  have f4 := frozen_of_row w4 g 4 _ _ hg4
  have q3 := cell_of_row w4 g 3 _ _ _ hg4
  have q4 := cell_of_row w4 g 4 _ _ _ hg4
  simp at q3 q4
  have hT := train_of_clone (t0 := w.heap.size) hg hb23 hb4 (by omega) (ownsRow_more o1 hbd.size) o2
  have hbF : Below w.heap.size w ((w4.setCell ⟨g, 3, none⟩ (.slice (some ⟨k1, 0, none⟩) D m1)).setCell ⟨g, 4, none⟩ (.slice (some ⟨k2, 0, none⟩) D m2)) :=
    (((HB.out.trans (hb2.mono hs1)).trans ((hb23.trans (hb4.mono hb23.size)).mono (Nat.le_trans hs1 hb2.size))).setCell (p := ⟨g, 3, none⟩) (by show w.heap.size ≤ g; omega) _).setCell (p := ⟨g, 4, none⟩) (by show w.heap.size ≤ g; omega) _
  clear hg hg4 o1 o2 hb3 hb4 hb23 HS3 HSd hbd hb2 x3 x4 e3 e4 HS HLG HLD
  go_wp2
  refine onlyNormal_mk ?_
  clear f3 f4 q3 q4
  generalize ((w4.setCell ⟨g, 3, none⟩ (.slice (some ⟨k1, 0, none⟩) D m1)).setCell ⟨g, 4, none⟩ (.slice (some ⟨k2, 0, none⟩) D m2)) = w5 at *
  have t0 := hT.cell 0
  have t1 := hT.cell 1
  have t3 := hT.cell 3
  simp at t0 t1 t3
  have x0 := fun x : Xt w5 => x.cell t0
  have x1 := fun x : Xt w5 => x.cell t1
  have x3 := fun x : Xt w5 => x.cell t3
  go_upto_region 6 with (fail)
  cases ei : inPlaceB T S pl <;> cases mv <;> cases al
  all_goals
    have EI := Lib.hid ei
    refine wp_region_cut [0] [1, 2, 3, 4, 5, 6, 7, 8, 9, 10, 11, 12, 13, 14, 15, 16, 17, 18, 19, 20, 21, 22, 23, 24, 25, 26, 27, 28, 29, 30, 31, 32, 33, 34, 35] 36 [37, 38, 39] (fun w' => ∃ x : Xt w5, w' = x.1) (by kernel_rfl) (by kernel_rfl) ⟨⟨w5.drew, (Below.refl _ _).drew⟩, rfl⟩ ?_
    simp only [opsAt_nil, opsAt_cons, consOpt_some, List.getElem?_toArray, List.getElem?_cons_zero, List.getElem?_cons_succ]
    repeat (go_big_quiet_step (fail))
    refine wpQuiet_nil ?_
    show wpQuiet _ _ _ _ _ _
    repeat (go_big_quiet_step (first | (go_at_call 101; exact Xt.calls_same (isOpen_any _ (by omega) (hT.below (xprop _)))) | (go_at_call 102; exact Xt.calls (inPlaceAt_val _ ei _ (hT.below (xprop _)) zp z3)) | (go_at_call 103; exact Xt.calls_same (ContainsBools_any _ _ _ _ gs true _ (by omega) hT.lenG (hT.below (xprop _)).rdG)) | (go_at_call 104; exact Xt.calls_same (bare_any _ (by omega) (hT.below (xprop _)))) | (go_at_call 62; exact Xt.calls_same (unless_any _ _ _))))
    refine wpQuiet_nil ?_
    intro w6 hx
    have hb6 := Xt.below hx
    clear hx x0 x1 x3
    have hT6 := hT.below hb6
    go_wp2_with (go_at_call 61; refine (first3 _ _ _ _).mono ?_; rintro e w' ⟨rfl, rfl⟩)
    refine onlyNormal_mk ?_
    go_wp2
    go_ret2
    exact ⟨g, k1, k2, m1, m2, by simp [postE, EI.out, isOpenB], hT6.alloc _, (hbF.trans (hb6.mono hbF.size)).alloc (Nat.le_trans hbF.size hb6.size) _⟩
end Go.Proofs.YtlbgocgocanloaaGreatDoor

/- CheckState and Apply. -/
namespace Go.Proofs.YtlbgocgocanloaaGreatDoor
open Go.RowKit
/-- the error of doors and a state -/
def chkE (D T S : Int) (s : Tr) : Int := if doorsE D T S = 0 then stateE D T S s else doorsE D T S
theorem preE_ne {D T S : Int} {s : Tr} {ng nd : Nat} (lg : s.gates.length = ng) (ld : s.doors.length = nd) (h : preE D T S s.place ng nd ≠ 0) : chkE D T S s = preE D T S s.place ng nd := by
  unfold chkE
  subst lg ld
  by_cases h1 : doorsE D T S = 0
  · rw [if_pos h1]
    unfold preE stateE at *
    simp only [firstE, h1, if_true] at *
    split at h
    · split at h
      · exact absurd rfl h
      · rename_i h2 h3
        simp only [h2, h3, if_true, if_false]
    · rename_i h2
      simp only [h2, if_false]
  · rw [if_neg h1]
    unfold preE
    simp only [firstE, h1, if_false]
theorem preE_zero {D : Nat} {T S : Int} {s : Tr} (lg : s.gates.length = D) (ld : s.doors.length = D) (h : preE D T S s.place D D = 0) : chkE D T S s = postE T S s := by
  unfold preE at h
  simp only [firstE_cons, firstE_nil, and_true] at h
  obtain ⟨h1, h2, h3⟩ := h
  unfold chkE
  rw [if_pos h1]
  unfold stateE postE
  have h4 : unlessE (decide ((s.gates.length : Int) = D) && decide ((s.doors.length : Int) = D)) 10 = 0 := by rw [lg, ld]; simpa using h3
  simp only [firstE, h2, h4, if_true]
theorem preE_len {D T S pl : Int} {ng nd : Nat} (h : preE D T S pl ng nd = 0) : ∃ d : Nat, D = (d : Int) ∧ d = ng ∧ d = nd := by
  unfold preE at h
  simp only [firstE_cons, firstE_nil, and_true] at h
  obtain ⟨h1, _, h3⟩ := h
  obtain ⟨⟨d1, _⟩, _⟩ := doorsE_zero h1
  rw [unlessE_zero (by omega)] at h3
  simp only [Bool.and_eq_true, decide_eq_true_eq] at h3
  exact ⟨ng, by omega, rfl, by omega⟩
end Go.Proofs.YtlbgocgocanloaaGreatDoor
