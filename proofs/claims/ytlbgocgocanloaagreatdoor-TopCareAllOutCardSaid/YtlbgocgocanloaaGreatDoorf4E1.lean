/- The examples: what they come to. -/
import Derived.Test.YtlbgocgocanloaaGreatDoorf4W3
import Derived.Test.YtlbgocgocanloaaGreatDoorf4Shelf
import Derived.Test.YtlbgocgocanloaaGreatDoorf4D4
import Derived.Shelf.Utf8.RuneCount
import Derived.Shelf.Sort.Plain
import Derived.Shelf.Unicode.DecodeAny
import Derived.Shelf.Slices.In.SortNone
namespace Go.Proofs.YtlbgocgocanloaaGreatDoor
open Go.RowKit
theorem Doors_any (w : World) : Calls Tryz.prog 38 #[] w fun e w' => e = .returned (.agg #[.int .i64 2, .int .i64 5000, .int .i64 100]) ∧ Below w.heap.size w w' := by
  go_enter Tryz.func38, Tryz.ntmps38
  go_wp2
  refine bodyPost_ret (v := .agg #[.int .i64 2, .int .i64 5000, .int .i64 100]) (by simp [results, Tryz.results38, go_sem]) rfl ⟨rfl, (Below.refl _ _).alloc (Nat.le_refl _) _⟩
def RoomsAt (w : World) (e : Ending) (w' : World) : Prop :=
  ∃ g1 g2, e = .returned (.agg #[.slice (some ⟨g1, 0, none⟩) 2 2, .slice (some ⟨g2, 0, none⟩) 2 2]) ∧ Rd w' w'.heap.size (some ⟨g1, 0, none⟩) (intCells exP) ∧ Rd w' w'.heap.size (some ⟨g2, 0, none⟩) (evCells exW) ∧ Below w.heap.size w w'
theorem Rd_of_block {w : World} {g : Nat} {cs : Array Value} {t : TypeId} {fr : Nat × Nat} (h : w.heap[g]? = some (.cells cs t fr)) : Rd w w.heap.size (some ⟨g, 0, none⟩) cs.toList := fun k u hk => by
  refine ⟨g, 0, rfl, lt_of_block h, ?_⟩
  rw [cell_of_row w g (0 + k) _ _ _ h, Nat.zero_add]
  simpa using hk
theorem Rooms_any (w : World) : Calls Tryz.prog 39 #[] w (RoomsAt w) := by
  go_enter Tryz.func39, Tryz.ntmps39
  go_wp2
  have k1 : (((w.alloc (Obj.cells #[Value.slice (some { block := w.heap.size + 1, off := 0 }) 2 2, Value.slice (some { block := w.heap.size + 1 + 1, off := 0 }) 2 2] 65)).alloc (Obj.cells #[Value.int IntKind.i64 10, Value.int IntKind.i64 5] 3)).alloc (Obj.cells #[Value.int IntKind.i64 0, Value.int IntKind.i64 1, Value.int IntKind.i64 4, Value.int IntKind.i64 1, Value.int IntKind.i64 (-1), Value.int IntKind.i64 3] 146)).heap[w.heap.size + 1]? = some (.cells #[Value.int IntKind.i64 10, Value.int IntKind.i64 5] 3 (0, 0)) := by
    rw [heapq_alloc, if_neg (by simp), heapq_alloc, if_pos (by simp)]
  have k2 : (((w.alloc (Obj.cells #[Value.slice (some { block := w.heap.size + 1, off := 0 }) 2 2, Value.slice (some { block := w.heap.size + 1 + 1, off := 0 }) 2 2] 65)).alloc (Obj.cells #[Value.int IntKind.i64 10, Value.int IntKind.i64 5] 3)).alloc (Obj.cells #[Value.int IntKind.i64 0, Value.int IntKind.i64 1, Value.int IntKind.i64 4, Value.int IntKind.i64 1, Value.int IntKind.i64 (-1), Value.int IntKind.i64 3] 146)).heap[w.heap.size + 1 + 1]? = some (.cells #[Value.int IntKind.i64 0, Value.int IntKind.i64 1, Value.int IntKind.i64 4, Value.int IntKind.i64 1, Value.int IntKind.i64 (-1), Value.int IntKind.i64 3] 146 (0, 0)) := by
    rw [heapq_alloc, if_pos (by simp)]
  have hb : Below w.heap.size w (((w.alloc (Obj.cells #[Value.slice (some { block := w.heap.size + 1, off := 0 }) 2 2, Value.slice (some { block := w.heap.size + 1 + 1, off := 0 }) 2 2] 65)).alloc (Obj.cells #[Value.int IntKind.i64 10, Value.int IntKind.i64 5] 3)).alloc (Obj.cells #[Value.int IntKind.i64 0, Value.int IntKind.i64 1, Value.int IntKind.i64 4, Value.int IntKind.i64 1, Value.int IntKind.i64 (-1), Value.int IntKind.i64 3] 146)) := (((Below.refl _ _).alloc (Nat.le_refl _) _).alloc (by simp) _).alloc (by simp; omega) _
  refine bodyPost_ret (v := .agg #[.slice (some ⟨w.heap.size + 1, 0, none⟩) 2 2, .slice (some ⟨w.heap.size + 1 + 1, 0, none⟩) 2 2]) (by simp [results, Tryz.results39, go_sem]) rfl ⟨_, _, rfl, Rd_of_block k1, Rd_of_block k2, hb⟩
def AwakePost (w : World) (e : Ending) (w' : World) : Prop := e = .returned (.bool true) ∧ Below w.heap.size w w'
theorem TrainAt.st {w : World} {B g bg bd cg cd D : Nat} {T S : Int} {s : Tr} (h : TrainAt w B g bg bd cg cd D T S s) (hD : D ≤ 1000000000) : StAt w w.heap.size (some ⟨bg, 0, none⟩) (some ⟨bd, 0, none⟩) D D s :=
  ⟨h.lenG, h.lenD, h.rdG, h.rdD, hD, hD⟩
def exS : Tr := ⟨false, false, 5000, [true, false], [true, false]⟩
theorem exRun : runTr 2 5000 100 ⟨false, false, 5000, List.replicate 2 false, List.replicate 2 false⟩ [(2, 0, 0), (4, 0, 0)] 0 = .inr exS := by rfl
end Go.Proofs.YtlbgocgocanloaaGreatDoor
