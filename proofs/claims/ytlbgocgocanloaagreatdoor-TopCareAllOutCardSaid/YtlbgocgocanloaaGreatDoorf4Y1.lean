/- few, and the reference's error of a state. -/
import Derived.Test.YtlbgocgocanloaaGreatDoorf4S1
import Derived.Test.YtlbgocgocanloaaGreatDoorf4E1
import Derived.Test.YtlbgocgocanloaaGreatDoorf4X3
namespace Go.Proofs.YtlbgocgocanloaaGreatDoor
open Go.RowKit
theorem cells3w {W : World} {r t : Nat} {a0 a1 a2 : Value} (h : W.heap[r]? = some (.cells #[a0, a1, a2] t (0, 0))) :
    W.cell? ⟨r, 0, none⟩ = some a0 ∧ W.cell? ⟨r, 1, none⟩ = some a1 ∧ W.cell? ⟨r, 2, none⟩ = some a2 := by
  refine ⟨?_, ?_, ?_⟩ <;> rw [cell_of_row _ _ _ _ _ _ h] <;> rfl
def IntPost (w : World) (x : Int) (e : Ending) (w' : World) : Prop := e = .returned (.int .i64 x) ∧ Below w.heap.size w w'
theorem lone_val (w : World) (B : Nat) (Ag Ad : Option Addr) (ng nd cg cd : Nat) (s : Tr) (b : Bool) (hb : bareB s = b) (h : StAt w B Ag Ad ng nd s) (hg : nd ≤ ng) (hB : B ≤ w.heap.size) :
    Calls Tryz.prog 67 #[stV s Ag Ad ng nd cg cd] w fun e w' => e = .returned (.bool b) ∧ Below w.heap.size w w' := by
  rw [← hb]
  exact lone_any w B Ag Ad ng nd cg cd s h hg hB
set_option maxHeartbeats 4000000 in
theorem StateErr_any (w : World) (B : Nat) (D T S : Int) (Ag Ad : Option Addr) (ng nd cg cd : Nat) (s : Tr) (h : StAt w B Ag Ad ng nd s) (hB : B ≤ w.heap.size) (hT : 0 ≤ T ∧ T ≤ 1000000000) :
    Calls Tryz.prog 24 #[.agg #[.int .i64 D, .int .i64 T, .int .i64 S], stV s Ag Ad ng nd cg cd] w (IntPost w (stateE D T S s)) := by
  obtain ⟨mv, al, pl, gs, ds⟩ := s
  have hb0 : Below w.heap.size w ((w.alloc (.cells #[.int .i64 D, .int .i64 T, .int .i64 S] 40)).alloc (.cells #[.bool mv, .bool al, .int .i64 pl, .slice Ag ng cg, .slice Ad nd cd] 52)) :=
    ((Below.refl _ _).alloc (Nat.le_refl _) _).alloc (by simp) _
  have k0 : ((w.alloc (.cells #[.int .i64 D, .int .i64 T, .int .i64 S] 40)).alloc (.cells #[.bool mv, .bool al, .int .i64 pl, .slice Ag ng cg, .slice Ad nd cd] 52)).heap[w.heap.size]? = some (.cells #[.int .i64 D, .int .i64 T, .int .i64 S] 40 (0, 0)) := by
    rw [heapq_alloc, if_neg (by simp), heapq_alloc, if_pos rfl]
  have k1 : ((w.alloc (.cells #[.int .i64 D, .int .i64 T, .int .i64 S] 40)).alloc (.cells #[.bool mv, .bool al, .int .i64 pl, .slice Ag ng cg, .slice Ad nd cd] 52)).heap[w.heap.size + 1]? = some (.cells #[.bool mv, .bool al, .int .i64 pl, .slice Ag ng cg, .slice Ad nd cd] 52 (0, 0)) := by
    rw [heapq_alloc, if_pos (by simp)]
  have h1 := h.below (hb0.mono hB)
  have ng1 := h.ng1
  have nd1 := h.nd1
  have lg : gs.length = ng := h.lg
  have ld : ds.length = nd := h.ld
  have HS := Lib.hid h1
  have HV : Hid (stateE D T S ⟨mv, al, pl, gs, ds⟩ = firstE [placeE pl, unlessE (decide ((ng : Int) = D) && decide ((nd : Int) = D)) 10, unlessE (!mv || !(hasB gs true || hasB ds true)) 23, unlessE (inPlaceB T S pl || !hasB gs true) 9, unlessE (al || !bareB ⟨mv, al, pl, gs, ds⟩) 17]) := by
    rw [Hid, ← lg, ← ld]
    rfl
  have HB := Lib.hid hb0
  have hs0 : B ≤ ((w.alloc (.cells #[.int .i64 D, .int .i64 T, .int .i64 S] 40)).alloc (.cells #[.bool mv, .bool al, .int .i64 pl, .slice Ag ng cg, .slice Ad nd cd] 52)).heap.size := by simp; omega
  have hs1 : w.heap.size ≤ ((w.alloc (.cells #[.int .i64 D, .int .i64 T, .int .i64 S] 40)).alloc (.cells #[.bool mv, .bool al, .int .i64 pl, .slice Ag ng cg, .slice Ad nd cd] 52)).heap.size := by simp; omega
  obtain ⟨d0, d1, d2⟩ := cells3w k0
  obtain ⟨c0, c1, c2, c3, c4⟩ := cells5 k1
  clear h h1 k0 k1 hb0 lg ld
  simp only [stV]
  go_enter Tryz.func24, Tryz.ntmps24
  go_upto_region 1 with (fail)
  generalize ((w.alloc (.cells #[.int .i64 D, .int .i64 T, .int .i64 S] 40)).alloc (.cells #[.bool mv, .bool al, .int .i64 pl, .slice Ag ng cg, .slice Ad nd cd] 52)) = w0 at *
  have P := fun W => PlaceErr_any pl W
  rcases placeE_cases pl with ⟨p1, p2⟩ | ⟨p1, p2⟩
  · have hp : 0 ≤ pl ∧ pl ≤ 1000000000 := placeE_zero p2
    simp only [p2] at P
    have HP := Lib.hid p2
    clear p1 p2
    by_cases e1 : (ng : Int) = D
    · subst e1
      by_cases e2 : (nd : Int) = (ng : Int)
      · obtain rfl : nd = ng := by omega
        have A1 := fun (W : World) (hW : Below w0.heap.size w0 W) b hb => anyOpen_val Ag nd cg B gs b hb W ng1 HS.out.lg (HS.out.rg.below (hW.mono hs0))
        have A2 := fun (W : World) (hW : Below w0.heap.size w0 W) b hb => anyOpen_val Ad nd cd B ds b hb W nd1 HS.out.ld (HS.out.rd.below (hW.mono hs0))
        have IP := fun (W : World) b hb => InPlace_val (nd : Int) T S pl b hb W hp hT
        have LO := fun (W : World) (hW : Below w0.heap.size w0 W) b hb => lone_val W B Ag Ad nd nd cg cd ⟨mv, al, pl, gs, ds⟩ b hb (HS.out.below (hW.mono hs0)) (Nat.le_refl _) (Nat.le_trans hs0 hW.size)
        simp only [stV] at LO
        have rf := Below.refl w0.heap.size w0
        clear HS ng1 nd1 hp hT
        cases mv
        · cases eo : hasB gs true
          · cases al
            · cases eb : bareB ⟨false, false, pl, gs, ds⟩
              · have EO := Lib.hid eo
                have EB := Lib.hid eb
                go_wp2_with (first | (go_at_call 57; refine (P _).mono ?_; rintro e w' ⟨rfl, rfl⟩) | (go_at_call_of 65 (Value.slice Ag nd cg); refine (A1 _ rf _ eo).mono ?_; rintro e w' ⟨rfl, rfl⟩) | (go_at_call 67; refine (LO _ rf _ eb).mono ?_; rintro e w2 ⟨rfl, hb2⟩))
                go_ret
                exact ⟨by rw [HV.out]; simp [firstE, unlessE, HP.out, EO.out, EB.out], HB.out.trans (hb2.mono hs1)⟩
              · have EO := Lib.hid eo
                have EB := Lib.hid eb
                go_wp2_with (first | (go_at_call 57; refine (P _).mono ?_; rintro e w' ⟨rfl, rfl⟩) | (go_at_call_of 65 (Value.slice Ag nd cg); refine (A1 _ rf _ eo).mono ?_; rintro e w' ⟨rfl, rfl⟩) | (go_at_call 67; refine (LO _ rf _ eb).mono ?_; rintro e w2 ⟨rfl, hb2⟩))
                go_ret
                exact ⟨by rw [HV.out]; simp [firstE, unlessE, HP.out, EO.out, EB.out], HB.out.trans (hb2.mono hs1)⟩
            · have EO := Lib.hid eo
              go_wp2_with (first | (go_at_call 57; refine (P _).mono ?_; rintro e w' ⟨rfl, rfl⟩) | (go_at_call_of 65 (Value.slice Ag nd cg); refine (A1 _ rf _ eo).mono ?_; rintro e w' ⟨rfl, rfl⟩))
              go_ret
              exact ⟨by rw [HV.out]; simp [firstE, unlessE, HP.out, EO.out], HB.out⟩
          · cases ei : inPlaceB T S pl
            · have EO := Lib.hid eo
              have EI := Lib.hid ei
              go_wp2_with (first | (go_at_call 57; refine (P _).mono ?_; rintro e w' ⟨rfl, rfl⟩) | (go_at_call_of 65 (Value.slice Ag nd cg); refine (A1 _ rf _ eo).mono ?_; rintro e w' ⟨rfl, rfl⟩) | (go_at_call 66; refine (IP _ _ ei).mono ?_; rintro e w1 ⟨rfl, hb1⟩; have c0' := kept hb1 c0; have c1' := kept hb1 c1; have c2' := kept hb1 c2; have c3' := kept hb1 c3; have c4' := kept hb1 c4))
              go_ret
              exact ⟨by rw [HV.out]; simp [firstE, unlessE, HP.out, EO.out, EI.out], HB.out.trans (hb1.mono hs1)⟩
            · cases al
              · cases eb : bareB ⟨false, false, pl, gs, ds⟩
                · have EO := Lib.hid eo
                  have EI := Lib.hid ei
                  have EB := Lib.hid eb
                  go_wp2_with (first | (go_at_call 57; refine (P _).mono ?_; rintro e w' ⟨rfl, rfl⟩) | (go_at_call_of 65 (Value.slice Ag nd cg); refine (A1 _ rf _ eo).mono ?_; rintro e w' ⟨rfl, rfl⟩) | (go_at_call 66; refine (IP _ _ ei).mono ?_; rintro e w1 ⟨rfl, hb1⟩; have c0' := kept hb1 c0; have c1' := kept hb1 c1; have c2' := kept hb1 c2; have c3' := kept hb1 c3; have c4' := kept hb1 c4) | (go_at_call 67; refine (LO _ hb1 _ eb).mono ?_; rintro e w2 ⟨rfl, hb2⟩))
                  go_ret
                  exact ⟨by rw [HV.out]; simp [firstE, unlessE, HP.out, EO.out, EI.out, EB.out], (HB.out.trans (hb1.mono hs1)).trans (hb2.mono (Nat.le_trans hs1 hb1.size))⟩
                · have EO := Lib.hid eo
                  have EI := Lib.hid ei
                  have EB := Lib.hid eb
                  go_wp2_with (first | (go_at_call 57; refine (P _).mono ?_; rintro e w' ⟨rfl, rfl⟩) | (go_at_call_of 65 (Value.slice Ag nd cg); refine (A1 _ rf _ eo).mono ?_; rintro e w' ⟨rfl, rfl⟩) | (go_at_call 66; refine (IP _ _ ei).mono ?_; rintro e w1 ⟨rfl, hb1⟩; have c0' := kept hb1 c0; have c1' := kept hb1 c1; have c2' := kept hb1 c2; have c3' := kept hb1 c3; have c4' := kept hb1 c4) | (go_at_call 67; refine (LO _ hb1 _ eb).mono ?_; rintro e w2 ⟨rfl, hb2⟩))
                  go_ret
                  exact ⟨by rw [HV.out]; simp [firstE, unlessE, HP.out, EO.out, EI.out, EB.out], (HB.out.trans (hb1.mono hs1)).trans (hb2.mono (Nat.le_trans hs1 hb1.size))⟩
              · have EO := Lib.hid eo
                have EI := Lib.hid ei
                go_wp2_with (first | (go_at_call 57; refine (P _).mono ?_; rintro e w' ⟨rfl, rfl⟩) | (go_at_call_of 65 (Value.slice Ag nd cg); refine (A1 _ rf _ eo).mono ?_; rintro e w' ⟨rfl, rfl⟩) | (go_at_call 66; refine (IP _ _ ei).mono ?_; rintro e w1 ⟨rfl, hb1⟩; have c0' := kept hb1 c0; have c1' := kept hb1 c1; have c2' := kept hb1 c2; have c3' := kept hb1 c3; have c4' := kept hb1 c4))
                go_ret
                exact ⟨by rw [HV.out]; simp [firstE, unlessE, HP.out, EO.out, EI.out], HB.out.trans (hb1.mono hs1)⟩
        · cases eo : hasB gs true
          · cases ed : hasB ds true
            · cases al
              · cases eb : bareB ⟨true, false, pl, gs, ds⟩
                · have EO := Lib.hid eo
                  have ED := Lib.hid ed
                  have EB := Lib.hid eb
                  go_wp2_with (first | (go_at_call 57; refine (P _).mono ?_; rintro e w' ⟨rfl, rfl⟩) | (go_at_call_of 65 (Value.slice Ag nd cg); refine (A1 _ rf _ eo).mono ?_; rintro e w' ⟨rfl, rfl⟩) | (go_at_call_of 65 (Value.slice Ad nd cd); refine (A2 _ rf _ ed).mono ?_; rintro e w' ⟨rfl, rfl⟩) | (go_at_call 67; refine (LO _ rf _ eb).mono ?_; rintro e w2 ⟨rfl, hb2⟩))
                  go_ret
                  exact ⟨by rw [HV.out]; simp [firstE, unlessE, HP.out, EO.out, ED.out, EB.out], HB.out.trans (hb2.mono hs1)⟩
                · have EO := Lib.hid eo
                  have ED := Lib.hid ed
                  have EB := Lib.hid eb
                  go_wp2_with (first | (go_at_call 57; refine (P _).mono ?_; rintro e w' ⟨rfl, rfl⟩) | (go_at_call_of 65 (Value.slice Ag nd cg); refine (A1 _ rf _ eo).mono ?_; rintro e w' ⟨rfl, rfl⟩) | (go_at_call_of 65 (Value.slice Ad nd cd); refine (A2 _ rf _ ed).mono ?_; rintro e w' ⟨rfl, rfl⟩) | (go_at_call 67; refine (LO _ rf _ eb).mono ?_; rintro e w2 ⟨rfl, hb2⟩))
                  go_ret
                  exact ⟨by rw [HV.out]; simp [firstE, unlessE, HP.out, EO.out, ED.out, EB.out], HB.out.trans (hb2.mono hs1)⟩
              · have EO := Lib.hid eo
                have ED := Lib.hid ed
                go_wp2_with (first | (go_at_call 57; refine (P _).mono ?_; rintro e w' ⟨rfl, rfl⟩) | (go_at_call_of 65 (Value.slice Ag nd cg); refine (A1 _ rf _ eo).mono ?_; rintro e w' ⟨rfl, rfl⟩) | (go_at_call_of 65 (Value.slice Ad nd cd); refine (A2 _ rf _ ed).mono ?_; rintro e w' ⟨rfl, rfl⟩))
                go_ret
                exact ⟨by rw [HV.out]; simp [firstE, unlessE, HP.out, EO.out, ED.out], HB.out⟩
            · have EO := Lib.hid eo
              have ED := Lib.hid ed
              go_wp2_with (first | (go_at_call 57; refine (P _).mono ?_; rintro e w' ⟨rfl, rfl⟩) | (go_at_call_of 65 (Value.slice Ag nd cg); refine (A1 _ rf _ eo).mono ?_; rintro e w' ⟨rfl, rfl⟩) | (go_at_call_of 65 (Value.slice Ad nd cd); refine (A2 _ rf _ ed).mono ?_; rintro e w' ⟨rfl, rfl⟩))
              go_ret
              exact ⟨by rw [HV.out]; simp [firstE, unlessE, HP.out, EO.out, ED.out], HB.out⟩
          · have EO := Lib.hid eo
            go_wp2_with (first | (go_at_call 57; refine (P _).mono ?_; rintro e w' ⟨rfl, rfl⟩) | (go_at_call_of 65 (Value.slice Ag nd cg); refine (A1 _ rf _ eo).mono ?_; rintro e w' ⟨rfl, rfl⟩))
            go_ret
            exact ⟨by rw [HV.out]; simp [firstE, unlessE, HP.out, EO.out], HB.out⟩
      · have E1 : Hid (decide ((nd : Int) = (ng : Int)) = false) := by simp [Hid, e2]
        have e2' : ((nd : Int) != (ng : Int)) = true := bne_iff_ne.2 e2
        clear e2 HS
        go_wp2_with (go_at_call 57; refine (P _).mono ?_; rintro e w' ⟨rfl, rfl⟩)
        go_ret
        exact ⟨by rw [HV.out]; simp [firstE, unlessE, HP.out, E1.out], HB.out⟩
    · have E1 : Hid (decide ((ng : Int) = D) = false) := by simp [Hid, e1]
      have e1' : ((ng : Int) != D) = true := bne_iff_ne.2 e1
      clear e1 HS
      go_wp2_with (go_at_call 57; refine (P _).mono ?_; rintro e w' ⟨rfl, rfl⟩)
      go_ret
      exact ⟨by rw [HV.out]; simp [firstE, unlessE, HP.out, E1.out], HB.out⟩
  · simp only [p2] at P
    have HP := Lib.hid p2
    clear p1 p2 HS
    go_wp2_with (go_at_call 57; refine (P _).mono ?_; rintro e w' ⟨rfl, rfl⟩)
    go_ret
    exact ⟨by rw [HV.out]; simp [firstE, HP.out], HB.out⟩
end Go.Proofs.YtlbgocgocanloaaGreatDoor
