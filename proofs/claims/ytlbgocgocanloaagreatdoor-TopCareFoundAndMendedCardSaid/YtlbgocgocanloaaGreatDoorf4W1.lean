/- Rescue: the error of a rescue. -/
import Derived.Test.YtlbgocgocanloaaGreatDoorf4B4
namespace Go.Proofs.YtlbgocgocanloaaGreatDoor
open Go.RowKit
/-- a depot: its place, and by how much it is late -/
abbrev Dep := Int × Int
def depCells (l : List Dep) : List Value := l.flatMap fun d => [.int .i64 d.1, .int .i64 d.2]
theorem within_val (n lo hi : Int) (b : Bool) (hb : withinB n lo hi = b) (w : World) :
    Calls Tryz.prog 41 #[.int .i64 n, .int .i64 lo, .int .i64 hi] w fun e w' => e = .returned (.bool b) ∧ w = w' := by
  rw [← hb]
  exact within_any n lo hi w
end Go.Proofs.YtlbgocgocanloaaGreatDoor
