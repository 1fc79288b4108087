/- begin: a train that stands at a place; what a heap holds behind stores and new blocks. -/
import Derived.Test.YtlbgocgocanloaaGreatDoorf4A5
import Derived.Deep.OwnRows
import Derived.RegionTactic
import Derived.BigRegion
import Derived.Deep.RegionHeld3
namespace Go.Proofs.YtlbgocgocanloaaGreatDoor
open Go.RowKit
def objSet (i : Nat) (v : Value) : Obj → Obj
  | .cells c e f => .cells (c.setIfInBounds i v) e f
  | o => o
theorem objSet_cells (i : Nat) (v : Value) (c : Array Value) (e : TypeId) (f : Nat × Nat) : objSet i v (.cells c e f) = .cells (c.setIfInBounds i v) e f := rfl
theorem heapq_alloc (w : World) (o : Obj) (k : Nat) : (w.alloc o).heap[k]? = if k = w.heap.size then some o else w.heap[k]? := by
  show (w.heap.push o)[k]? = _
  rw [Array.getElem?_push]
theorem heapq_set (w : World) (b i : Nat) (v : Value) (k : Nat) : (w.setCell ⟨b, i, none⟩ v).heap[k]? = if k = b then (w.heap[k]?).map (objSet i v) else w.heap[k]? := by
  simp only [World.setCell, Array.getElem?_modify]
  by_cases h : k = b
  · subst h
    simp
    cases w.heap[k]? with
    | none => rfl
    | some o => cases o <;> rfl
  · rw [if_neg (fun e => h e.symm), if_neg h]
theorem heapq_drew (w : World) (k : Nat) : w.drew.heap[k]? = w.heap[k]? := rfl
theorem ownsRow_made_full {w : World} {base e g n : Nat} {z : Value} (h : w.heap[g]? = some (.cells (madeCells #[z] n) e (0, 0))) (hb : base ≤ g) (hn : n ≤ maxLen) :
    w.ownsRow base e 1 (.slice (some ⟨g, 0, none⟩) n n) n (List.replicate n z) :=
  ⟨by simp, .inr ⟨g, n, madeCells #[z] n, rfl, hb, h, Nat.le_refl _, hn, by simp [madeCells], by rw [toList_madeCells_one]; simp⟩⟩
theorem trainAt_made {W : World} {B g bg bd D : Nat} {T S place : Int} (hD : D ≤ 6)
    (h1 : W.heap[g]? = some (.cells #[.bool false, .bool false, .int .i64 place, .slice (some ⟨bg, 0, none⟩) D D, .slice (some ⟨bd, 0, none⟩) D D, .int .i64 D, .int .i64 T, .int .i64 S] 129 (0, 0)))
    (h2 : W.heap[bg]? = some (.cells (madeCells #[.bool false] D) 4 (0, 0))) (h3 : W.heap[bd]? = some (.cells (madeCells #[.bool false] D) 4 (0, 0)))
    (hne : bg ≠ bd) (hB : B ≤ g) (hB1 : B ≤ bg) (hB2 : B ≤ bd) : TrainAt W B g bg bd D D D T S ⟨false, false, place, List.replicate D false, List.replicate D false⟩ :=
  ⟨h1, by simpa using ownsRow_made_full h2 hB1 (by simp only [maxLen]; omega), by simpa using ownsRow_made_full h3 hB2 (by simp only [maxLen]; omega), hne, hB⟩
theorem info4 : (Tryz.prog.info? 4).map (fun i => (i.zero, i.size, i.bytes)) = some (some (.bool false), 1, 1) := by kernel_rfl
def BeginPost (w : World) (D : Nat) (T S place : Int) (e : Ending) (w' : World) : Prop :=
  ∃ g bg bd, e = .returned (.tuple #[.pointer (some ⟨g, 0, none⟩), .int .i64 0]) ∧ TrainAt w' w.heap.size g bg bd D D D T S ⟨false, false, place, List.replicate D false, List.replicate D false⟩ ∧ Below w.heap.size w w'
set_option maxHeartbeats 4000000 in
theorem begin_yes (D : Nat) (T S place : Int) (w : World) (hD : D ≤ 6) (h0 : firstE [doorsE D T S, placeE place] = 0) :
    Calls Tryz.prog 60 #[.agg #[.int .i64 D, .int .i64 T, .int .i64 S], .int .i64 place] w (BeginPost w D T S place) := by
  have hz : (firstE [doorsE D T S, placeE place] == 0) = true := by simp [h0]
  have hz' : (firstE [doorsE D T S, placeE place] != 0) = false := by simp [h0]
  have HZ := Lib.hid h0
  clear h0
  have hmk := run_make_row' (P := Tryz.prog) 50 4 (.bool false) 1 Tryz.underlying50 info4 rfl .i64 .i64 D (by omega) (by omega)
  go_enter Tryz.func60, Tryz.ntmps60
  go_wp2_with (first
    | (go_at_call 97; refine (CheckDoors_any _ _ _ _).mono ?_; rintro e w1 ⟨rfl, hb1⟩; have c0 : w1.cell? ⟨w.heap.size, 0, none⟩ = some (.int .i64 D) := kept hb1 (by simp); have c1 : w1.cell? ⟨w.heap.size, 1, none⟩ = some (.int .i64 T) := kept hb1 (by simp); have c2 : w1.cell? ⟨w.heap.size, 2, none⟩ = some (.int .i64 S) := kept hb1 (by simp); have hlt : w.heap.size < w1.heap.size := by have := hb1.size; simp at this; omega)
    | (go_at_call 98; refine (placeErr_any _ _).mono ?_; rintro e w' ⟨rfl, rfl⟩)
    | (go_at_call 61; refine (first2 _ _ _).mono ?_; rintro e w' ⟨rfl, rfl⟩))
  have hg : ((w1.alloc (.cells #[.int .i64 (doorsE D T S), .int .i64 (placeE place)] 29)).alloc (.cells #[.bool false, .bool false, .int .i64 0, .slice none 0 0, .slice none 0 0, .int .i64 D, .int .i64 T, .int .i64 S] 129)).heap[w1.heap.size + 1]? = some (.cells #[.bool false, .bool false, .int .i64 0, .slice none 0 0, .slice none 0 0, .int .i64 D, .int .i64 T, .int .i64 S] 129 (0, 0)) := by
    have := heap_alloc_new (w1.alloc (.cells #[.int .i64 (doorsE D T S), .int .i64 (placeE place)] 29)) (.cells #[.bool false, .bool false, .int .i64 0, .slice none 0 0, .slice none 0 0, .int .i64 D, .int .i64 T, .int .i64 S] 129)
    simpa using this
  have k0 : ((w1.alloc (.cells #[.int .i64 (doorsE D T S), .int .i64 (placeE place)] 29)).alloc (.cells #[.bool false, .bool false, .int .i64 0, .slice none 0 0, .slice none 0 0, .int .i64 D, .int .i64 T, .int .i64 S] 129)).cell? ⟨w.heap.size, 0, none⟩ = some (.int .i64 D) :=
    cell_alloc_old _ (cell_alloc_old _ c0)
  have hb2 : Below w.heap.size w ((w1.alloc (.cells #[.int .i64 (doorsE D T S), .int .i64 (placeE place)] 29)).alloc (.cells #[.bool false, .bool false, .int .i64 0, .slice none 0 0, .slice none 0 0, .int .i64 D, .int .i64 T, .int .i64 S] 129)) :=
    ((((Below.refl _ _).alloc (Nat.le_refl _) _).trans (hb1.mono (by simp))).alloc (by omega) _).alloc (by simp; omega) _
  generalize ((w1.alloc (.cells #[.int .i64 (doorsE D T S), .int .i64 (placeE place)] 29)).alloc (.cells #[.bool false, .bool false, .int .i64 0, .slice none 0 0, .slice none 0 0, .int .i64 D, .int .i64 T, .int .i64 S] 129)) = W0 at *
  have hgB : w.heap.size < w1.heap.size + 1 := by omega
  have hgn : ¬ w.heap.size = w1.heap.size + 1 := by omega
  have hgm : ¬ w1.heap.size + 1 = w.heap.size := by omega
  generalize w1.heap.size + 1 = g at *
  have hgl := lt_of_block hg
  have n0 := World.new_ne W0 _ k0
  have q2 := cell_of_row W0 g 2 _ _ _ hg
  have q3 := cell_of_row W0 g 3 _ _ _ hg
  have q4 := cell_of_row W0 g 4 _ _ _ hg
  simp at q2 q3 q4
  have f2 := frozen_of_row W0 g 2 _ _ hg
  have f3 := frozen_of_row W0 g 3 _ _ hg
  have f4 := frozen_of_row W0 g 4 _ _ hg
  have m2 := World.new_ne W0 _ q2
  have m3 := World.new_ne W0 _ q3
  have m4 := World.new_ne W0 _ q4
  clear c0 c1 c2 hlt hb1
  have l0 : w.heap.size < W0.heap.size := lt_of_cell k0
  have l1 : w.heap.size < W0.heap.size + 1 := by omega
  have r1 : ¬ w.heap.size = W0.heap.size + 1 := by omega
  have r2 : ¬ W0.heap.size + 1 = w.heap.size := by omega
  have r3 : ¬ g = W0.heap.size + 1 := by omega
  have r4 : ¬ W0.heap.size + 1 = g := by omega
  have HG := Lib.hid hg
  clear hg
  go_region_held3 (fun w' => w'.cell? ⟨w.heap.size, 0, none⟩ = some (.int .i64 D)) ((simp [go_sem, World.cell?_setCell_far, *])) (fail)
  all_goals go_wp2
  all_goals go_ret2
  all_goals first
    | (refine ⟨g, W0.heap.size, W0.heap.size + 1, rfl, trainAt_made (by omega) ?_ ?_ ?_ (by omega) (by omega) (by omega) (by omega), ?_⟩
       · simp [heapq_alloc, heapq_set, heapq_drew, objSet_cells, HG.out, r3, Nat.ne_of_lt hgl]; done
       · rw [heapq_drew, heapq_alloc, if_neg (by simp), heapq_alloc, if_pos (by simp)]
       · rw [heapq_drew, heapq_alloc, if_pos (by simp)]
       · repeat (first | exact hb2 | refine Below.drew ?_ | refine Below.alloc ?_ (by simp; omega) _ | refine Below.setCell ?_ (by simp; omega) _))
    | (refine ⟨g, W0.heap.size + 1, W0.heap.size, rfl, trainAt_made (by omega) ?_ ?_ ?_ (by omega) (by omega) (by omega) (by omega), ?_⟩
       · simp [heapq_alloc, heapq_set, heapq_drew, objSet_cells, HG.out, r3, Nat.ne_of_lt hgl]; done
       · rw [heapq_drew, heapq_alloc, if_pos (by simp)]
       · rw [heapq_drew, heapq_alloc, if_neg (by simp), heapq_alloc, if_pos (by simp)]
       · repeat (first | exact hb2 | refine Below.drew ?_ | refine Below.alloc ?_ (by simp; omega) _ | refine Below.setCell ?_ (by simp; omega) _))
end Go.Proofs.YtlbgocgocanloaaGreatDoor
