/- Rescue: places sorted; the worst place, plain. -/
import Derived.Test.YtmcjnfghlpnghaaGreatDoorW3
import Derived.Test.YtmcjnfghlpnghaaGreatDoorShelfB
namespace Go.Proofs.YtmcjnfghlpnghaaGreatDoor
open Go.RowKit
def sortI (l : List Int) : List Int := l.mergeSort fun x y => decide (x ≤ y)
theorem sortI_len (l : List Int) : (sortI l).length = l.length := List.length_mergeSort _
theorem sortI_mem {l : List Int} {x : Int} : x ∈ sortI l ↔ x ∈ l := List.mem_mergeSort
def SortPost (w : World) (blk : Nat) (zs : List Int) (e : Ending) (w' : World) : Prop :=
  e = .returned (.tuple #[]) ∧ (∀ k u, (intCells (sortI zs))[k]? = some u → w'.cell? ⟨blk, k, none⟩ = some u) ∧ (∀ k, k < w.heap.size → k ≠ blk → w'.heap[k]? = w.heap[k]?) ∧ Below blk w w'
open Go.Sort in
theorem Sort_own (w : World) (B blk cap : Nat) (zs : List Int) (h : w.ownsRow B 3 1 (.slice (some ⟨blk, 0, none⟩) zs.length cap) zs.length (intCells zs)) (hlen : zs.length ≤ 1000000) :
    Calls Tryz.prog 82 #[.slice (some ⟨blk, 0, none⟩) zs.length cap] w (SortPost w blk zs) := by
  have hblk : blk < w.heap.size := (ownBlk h rfl).2.1
  have hH : Holds (Value.int .i64) w blk 0 zs.toArray := by
    intro j hj
    have hj' : j < zs.length := by simpa using hj
    refine ⟨?_, by simpa using h.frozenAt (0 + j)⟩
    rw [Nat.zero_add, h.cellAt j (by omega)]
    simp [intCells, hj']
  refine (Tryz.slices_Sort_int blk 0 cap zs w hH hblk (by omega)).mono ?_
  rintro e w' ⟨rfl, n, os, rfl⟩
  have hs : (sortI zs).toArray.size = zs.toArray.size := by simp [sortI_len]
  have hsz : (putRow (Value.int .i64) (Sort.ahead w n) blk 0 (sortI zs).toArray).heap.size = w.heap.size := by simp [putRow, mapBlock, Sort.ahead]
  refine ⟨rfl, ?_, ?_, ⟨rfl, rfl, rfl, ?_, ?_⟩⟩
  · intro k u hu
    have hk : k < (sortI zs).length := by
      have := (List.getElem?_eq_some_iff.1 hu).1
      simpa [intCells] using this
    show World.cell? (grow (putRow (Value.int .i64) (Sort.ahead w n) blk 0 (sortI zs).toArray) os) _ = _
    rw [cell?_grow _ _ _ (by rw [hsz]; exact hblk)]
    have h1 := cell?_putRow (Value.int .i64) (Sort.ahead w n) blk 0 zs.toArray (sortI zs).toArray hH hs k (by simpa using hk)
    rw [Nat.zero_add] at h1
    rw [h1]
    rw [← hu]
    simp [intCells, hk]
  · intro k hk hne
    show (grow (putRow (Value.int .i64) (Sort.ahead w n) blk 0 (sortI zs).toArray) os).heap[k]? = _
    rw [heap_grow_old _ _ (by rw [hsz]; exact hk)]
    simp only [putRow, mapBlock, Sort.ahead, Array.getElem?_modify]
    rw [if_neg (fun e => hne e.symm)]
  · show w.heap.size ≤ (grow (putRow (Value.int .i64) (Sort.ahead w n) blk 0 (sortI zs).toArray) os).heap.size
    rw [size_grow, hsz]
    omega
  · intro k hk
    show (grow (putRow (Value.int .i64) (Sort.ahead w n) blk 0 (sortI zs).toArray) os).heap[k]? = _
    rw [heap_grow_old _ _ (by rw [hsz]; omega)]
    simp only [putRow, mapBlock, Sort.ahead, Array.getElem?_modify]
    rw [if_neg (by omega)]
/-- where the vehicles of two depots meet -/
def meetM (l : List Dep) (i k : Nat) : Int := (l[i]?.getD (0, 0)).1 + (l[k]?.getD (0, 0)).1 + (l[k]?.getD (0, 0)).2 - (l[i]?.getD (0, 0)).2
def meetK (l : List Dep) (L : Int) (i : Nat) : List Int → List Nat → List Int
  | acc, [] => acc
  | acc, k :: ks => meetK l L i (if withinB (meetM l i k) 0 (2 * L) = true then acc ++ [meetM l i k] else acc) ks
def meetI (l : List Dep) (L : Int) (ds : List Nat) : List Int → List Nat → List Int
  | acc, [] => acc
  | acc, i :: is => meetI l L ds (meetK l L i acc ds) is
/-- the last of the places that are reached latest -/
def worstGo (l : List Dep) (ds : List Nat) : Int × Int → List Int → Int × Int
  | o, [] => o
  | o, p :: ps => worstGo l ds (if o.2 < reachGo l p (-1) ds then (p, reachGo l p (-1) ds) else o) ps
def worstM (l : List Dep) (L : Int) (ds : List Nat) : Int × Int := worstGo l ds (0, -1) (sortI (meetI l L ds [0, 2 * L] ds))
end Go.Proofs.YtmcjnfghlpnghaaGreatDoor
