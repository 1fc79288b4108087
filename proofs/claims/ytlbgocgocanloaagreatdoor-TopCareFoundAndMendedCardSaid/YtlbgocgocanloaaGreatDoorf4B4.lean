/- CheckRooms whole, roomsErr, ticksErr. -/
import Derived.Test.YtlbgocgocanloaaGreatDoorf4B3
import Derived.Deep.Cut
namespace Go.Proofs.YtlbgocgocanloaaGreatDoor
open Go.RowKit
def RoomsVal (w : World) (pp : List Int) (ws : List Ev) (e : Ending) (w' : World) : Prop :=
  e = .returned (.tuple #[.int .i64 (roomsM pp ws).1, .int .i64 (roomsM pp ws).2]) ∧ Below w.heap.size w w'
theorem CheckRooms_any (Ap Aw : Option Addr) (np cp nw cw : Nat) (w : World) (B : Nat) (pp : List Int) (ws : List Ev) (hl : pp.length = np) (hlw : ws.length = nw) (hp : Rd w B Ap (intCells pp)) (hw : Rd w B Aw (evCells ws)) (hBw : B ≤ w.heap.size) :
    Calls Tryz.prog 105 #[.agg #[.slice Ap np cp, .slice Aw nw cw]] w (RoomsVal w pp ws) := by
  unfold RoomsVal
  by_cases h0 : np = 0
  · have : roomsM pp ws = (0, 10) := by simp [roomsM, hl, h0]
    rw [this]
    exact rooms_none Ap Aw np cp nw cw w h0
  by_cases h1 : np ≤ 6
  · by_cases h2 : nw ≤ 16
    · rcases Int.lt_or_le (idxGo notCrowdB pp 0) 0 with h3 | h3
      · have : roomsM pp ws = waysGo pp.length ws 0 := by
          simp only [roomsM, hl, hlw, h0, if_false]
          rw [if_pos ⟨h1, h2⟩, if_neg (by omega)]
        rw [this]
        exact rooms_loop Ap Aw np cp nw cw w B pp ws (by omega) h1 h2 hl hlw hp hw hBw h3
      · have : roomsM pp ws = (idxGo notCrowdB pp 0, 2) := by
          simp only [roomsM, hl, hlw, h0, if_false]
          rw [if_pos ⟨h1, h2⟩, if_pos h3]
        rw [this]
        exact rooms_people Ap Aw np cp nw cw w B pp (by omega) h1 h2 hl hp hBw h3
    · have : roomsM pp ws = (0, 8) := by
        simp only [roomsM, hl, hlw, h0, if_false]
        rw [if_neg (by omega)]
      rw [this]
      exact rooms_ways Ap Aw np cp nw cw w (by omega) h1 (by omega)
  · have : roomsM pp ws = (0, 8) := by
      simp only [roomsM, hl, hlw, h0, if_false]
      rw [if_neg (by omega)]
    rw [this]
    exact rooms_many Ap Aw np cp nw cw w (by omega) (by omega)
def ErrVal (w : World) (x : Int) (e : Ending) (w' : World) : Prop := e = .returned (.int .i64 x) ∧ Below w.heap.size w w'
theorem roomsErr_any (Ap Aw : Option Addr) (np cp nw cw : Nat) (w : World) (B : Nat) (pp : List Int) (ws : List Ev) (hl : pp.length = np) (hlw : ws.length = nw) (hp : Rd w B Ap (intCells pp)) (hw : Rd w B Aw (evCells ws)) (hBw : B ≤ w.heap.size) :
    Calls Tryz.prog 70 #[.agg #[.slice Ap np cp, .slice Aw nw cw]] w (ErrVal w (roomsM pp ws).2) := by
  have b0 : (w.alloc (.cells #[.slice Ap np cp, .slice Aw nw cw] 65)).cell? ⟨w.heap.size, 0, none⟩ = some (.slice Ap np cp) := by simp
  have b1 : (w.alloc (.cells #[.slice Ap np cp, .slice Aw nw cw] 65)).cell? ⟨w.heap.size, 1, none⟩ = some (.slice Aw nw cw) := by simp
  have hb0 : Below w.heap.size w (w.alloc (.cells #[.slice Ap np cp, .slice Aw nw cw] 65)) := (Below.refl _ _).alloc (Nat.le_refl _) _
  have hs0 : w.heap.size ≤ (w.alloc (.cells #[.slice Ap np cp, .slice Aw nw cw] 65)).heap.size := by simp
  go_enter Tryz.func70, Tryz.ntmps70
  go_upto_region 1 with (fail)
  generalize w.alloc (.cells #[.slice Ap np cp, .slice Aw nw cw] 65) = w0 at *
  generalize hB0 : w.heap.size = B0 at *
  have HB0 := Lib.hid hB0
  clear hB0
  have C := CheckRooms_any Ap Aw np cp nw cw w0 B pp ws hl hlw (hp.below (hb0.mono hBw)) (hw.below (hb0.mono hBw)) (by omega)
  clear hp hw hl hlw
  go_wp2_with (go_at_call 105; refine C.mono ?_; rintro e w' ⟨rfl, hb⟩)
  go_ret
  exact ⟨rfl, by rw [HB0.out]; exact hb0.trans (hb.mono hs0)⟩
theorem ticksErr_any (n : Int) (w : World) :
    Calls Tryz.prog 71 #[.int .i64 n] w fun e w' => e = .returned (.int .i64 (unlessE (withinB n 0 20) 2)) ∧ w = w' := by
  go_enter Tryz.func71, Tryz.ntmps71
  go_wp2_with (first | (go_at_call 41; refine (within_any _ _ _ _).mono ?_; rintro e w' ⟨rfl, rfl⟩) | (go_at_call 62; refine (unless_any _ _ _).mono ?_; rintro e w' ⟨rfl, rfl⟩))
  go_ret
  exact ⟨rfl, rfl⟩
end Go.Proofs.YtlbgocgocanloaaGreatDoor
