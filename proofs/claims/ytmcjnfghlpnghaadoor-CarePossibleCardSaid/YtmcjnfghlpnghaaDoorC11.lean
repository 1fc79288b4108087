/- The rooms of the examples: five ticks. -/
import Derived.Test.YtmcjnfghlpnghaaDoorC10
namespace Go.Proofs.YtmcjnfghlpnghaaDoor
open Go.RowKit

theorem outIs_of {pp : List Int} {ws : List Ev} {t : Nat} {o : Int} (h : (runM 20 200 (builtM pp ws t)).map (·.o) = some o) : outIs pp ws t o := by
  obtain ⟨F, h1, h2⟩ := Option.map_eq_some_iff.1 h
  exact ⟨20, 200, F, h1, h2⟩
def exP : List Int := [10, 5]
def exW : List Ev := [(0, 1, 4), (1, -1, 3)]
theorem ex0 : outIs exP exW 0 0 := outIs_of (by decide +kernel)
theorem ex1 : outIs exP exW 1 3 := outIs_of (by decide +kernel)
theorem ex2 : outIs exP exW 2 6 := outIs_of (by decide +kernel)
theorem ex3 : outIs exP exW 3 9 := outIs_of (by decide +kernel)
theorem ex4 : outIs exP exW 4 12 := outIs_of (by decide +kernel)
theorem ex5 : outIs exP exW 5 15 := outIs_of (by decide +kernel)
theorem exOk : (roomsM exP exW).2 = 0 := by decide
theorem LeastTime_ex (w : World) (B : Nat) (Ap Aw : Option Addr) (cp cw : Nat) (hp : Rd w B Ap (intCells exP)) (hw : Rd w B Aw (evCells exW)) (hBw : B ≤ w.heap.size) :
    Calls Tryd.prog 31 #[.agg #[.slice Ap 2 cp, .slice Aw 2 cw], .int .i64 9] w (LeastPost w 5 0) :=
  LeastTime_yes w B Ap Aw 2 cp 2 cw exP exW rfl rfl hp hw hBw exOk 9 (by omega) 5 (by omega) ex5 (fun t ht => by
    match t, ht with
    | 0, _ => exact ⟨_, ex0, by decide⟩
    | 1, _ => exact ⟨_, ex1, by decide⟩
    | 2, _ => exact ⟨_, ex2, by decide⟩
    | 3, _ => exact ⟨_, ex3, by decide⟩
    | 4, _ => exact ⟨_, ex4, by decide⟩
    | t + 5, h => omega)
end Go.Proofs.YtmcjnfghlpnghaaDoor
