/- Rescue: the error of a rescue, whole. -/
import Derived.Test.YtlbgocgocanloaaGreatDoorf4W1
import Derived.Test.YtlbgocgocanloaaGreatDoorf5C11
import Derived.Test.YtlbgocgocanloaaGreatDoorf4R1
import Derived.Test.YtlbgocgocanloaaGreatDoorf5Shelf
import Derived.Shelf.Utf8.RuneCount
import Derived.Shelf.Sort.Plain
import Derived.Shelf.Unicode.DecodeAny
import Derived.Shelf.Slices.In.SortNone
namespace Go.Proofs.YtlbgocgocanloaaGreatDoor
open Go.RowKit
end Go.Proofs.YtlbgocgocanloaaGreatDoor
namespace Go.Proofs.YtlbgocgocanloaaGreatDoor
open Go.RowKit
def DepOk (d : Dep) : Prop := 0 ≤ d.1 ∧ d.1 ≤ 1000000000 ∧ 0 ≤ d.2 ∧ d.2 ≤ 1000000000
structure RescueAt (w : World) (B g1 g2 : Nat) (L : Int) (A D : Option Addr) (n c m e : Nat) (l : List Dep) (ds : List Nat) : Prop where
  c0 : w.cell? ⟨g2, 0, none⟩ = some (.int .i64 L)
  c1 : w.cell? ⟨g2, 1, none⟩ = some (.slice A n c)
  d0 : w.cell? ⟨g1, 0, none⟩ = some (.slice D m e)
  rl : Rd w B A (depCells l)
  rd : Rd w B D (natCells ds)
  ln : l.length = n
  lm : ds.length = m
  ok : ∀ d ∈ l, DepOk d
  ix : ∀ i ∈ ds, i < n
  n1 : n ≤ 1000000
  m1 : m ≤ 1000000
  B1 : B ≤ w.heap.size
theorem RescueAt.keep {w w' : World} {B g1 g2 : Nat} {L : Int} {A D : Option Addr} {n c m e : Nat} {l : List Dep} {ds : List Nat} (h : RescueAt w B g1 g2 L A D n c m e l ds) (hb : Below w.heap.size w w') : RescueAt w' B g1 g2 L A D n c m e l ds :=
  ⟨kept hb h.c0, kept hb h.c1, kept hb h.d0, h.rl.keep hb, h.rd.keep hb, h.ln, h.lm, h.ok, h.ix, h.n1, h.m1, Nat.le_trans h.B1 hb.size⟩
end Go.Proofs.YtlbgocgocanloaaGreatDoor

/- The library's sort at this program. -/
namespace Go.Proofs
open Go.Shelf
def Tryz.lays189_ren : Go.Shelf.Ren := ⟨fun | 189 => 82 | 125 => 118 | 257 => 117 | 128 => 153 | 129 => 154 | 294 => 144 | 295 => 145 | 296 => 146 | 297 => 147 | 298 => 148 | 299 => 149 | 216 => 150 | 300 => 151 | 301 => 152 | 328 => 184 | 329 => 185 | 330 => 186 | 331 => 187 | 332 => 188 | 215 => 142 | 343 => 203 | n => n, fun | 28 => 44 | 3 => 3 | 46 => 189 | 0 => 0 | 51 => 214 | 53 => 216 | 4 => 4 | 183 => 207 | 182 => 206 | 131 => 110 | 5 => 5 | 9 => 9 | 218 => 242 | 222 => 113 | 228 => 262 | 229 => 263 | n => n, fun | n => n⟩
theorem Tryz.lays189 : Go.Proofs.Lays.n189 Tryz.prog Tryz.lays189_ren := {
  mixed := by kernel_rfl
  f125 := Tryz.func118.trans (congrArg some (by kernel_rfl))
  f128 := Tryz.func153.trans (congrArg some (by kernel_rfl))
  f129 := Tryz.func154.trans (congrArg some (by kernel_rfl))
  f189 := Tryz.func82.trans (congrArg some (by kernel_rfl))
  f215 := Tryz.func142.trans (congrArg some (by kernel_rfl))
  f216 := Tryz.func150.trans (congrArg some (by kernel_rfl))
  f257 := Tryz.func117.trans (congrArg some (by kernel_rfl))
  f294 := Tryz.func144.trans (congrArg some (by kernel_rfl))
  f295 := Tryz.func145.trans (congrArg some (by kernel_rfl))
  f296 := Tryz.func146.trans (congrArg some (by kernel_rfl))
  f297 := Tryz.func147.trans (congrArg some (by kernel_rfl))
  f298 := Tryz.func148.trans (congrArg some (by kernel_rfl))
  f299 := Tryz.func149.trans (congrArg some (by kernel_rfl))
  f300 := Tryz.func151.trans (congrArg some (by kernel_rfl))
  f301 := Tryz.func152.trans (congrArg some (by kernel_rfl))
  f328 := Tryz.func184.trans (congrArg some (by kernel_rfl))
  f329 := Tryz.func185.trans (congrArg some (by kernel_rfl))
  f330 := Tryz.func186.trans (congrArg some (by kernel_rfl))
  f331 := Tryz.func187.trans (congrArg some (by kernel_rfl))
  f332 := Tryz.func188.trans (congrArg some (by kernel_rfl))
  f343 := Tryz.func203.trans (congrArg some (by kernel_rfl))
  t0 := Tryz.underlying0
  a0 := Tryz.isAgg0
  z0 := Tryz.sizeOf0
  v0 := Tryz.zeroValue0
  t3 := Tryz.underlying3
  a3 := Tryz.isAgg3
  z3 := Tryz.sizeOf3
  v3 := Tryz.zeroValue3
  t4 := Tryz.underlying4
  a4 := Tryz.isAgg4
  z4 := Tryz.sizeOf4
  v4 := Tryz.zeroValue4
  t5 := Tryz.underlying5
  a5 := Tryz.isAgg5
  z5 := Tryz.sizeOf5
  v5 := Tryz.zeroValue5
  t9 := Tryz.underlying9
  a9 := Tryz.isAgg9
  z9 := Tryz.sizeOf9
  v9 := Tryz.zeroValue9
  t28 := Tryz.underlying44
  a28 := Tryz.isAgg44
  z28 := Tryz.sizeOf44
  v28 := Tryz.zeroValue44
  t46 := Tryz.underlying189
  a46 := Tryz.isAgg189
  z46 := Tryz.sizeOf189
  v46 := Tryz.zeroValue189
  t51 := Tryz.underlying214
  a51 := Tryz.isAgg214
  z51 := Tryz.sizeOf214
  v51 := Tryz.zeroValue214
  t53 := Tryz.underlying216
  a53 := Tryz.isAgg216
  z53 := Tryz.sizeOf216
  v53 := Tryz.zeroValue216
  t131 := Tryz.underlying110
  a131 := Tryz.isAgg110
  z131 := Tryz.sizeOf110
  v131 := Tryz.zeroValue110
  t182 := Tryz.underlying206
  a182 := Tryz.isAgg206
  z182 := Tryz.sizeOf206
  v182 := Tryz.zeroValue206
  t183 := Tryz.underlying207
  a183 := Tryz.isAgg207
  z183 := Tryz.sizeOf207
  v183 := Tryz.zeroValue207
  t218 := Tryz.underlying242
  a218 := Tryz.isAgg242
  z218 := Tryz.sizeOf242
  v218 := Tryz.zeroValue242
  t222 := Tryz.underlying113
  a222 := Tryz.isAgg113
  z222 := Tryz.sizeOf113
  v222 := Tryz.zeroValue113
  t228 := Tryz.underlying262
  a228 := Tryz.isAgg262
  z228 := Tryz.sizeOf262
  v228 := Tryz.zeroValue262
  t229 := Tryz.underlying263
  a229 := Tryz.isAgg263
  z229 := Tryz.sizeOf263
  v229 := Tryz.zeroValue263 }
open Go.Sort Go.RowKit in
theorem Tryz.slices_Sort_int (blk off cap : Nat) (zs : List Int) (w : World) (hH : Holds (Value.int .i64) w blk off zs.toArray) (hblk : blk < w.heap.size) (hsz : zs.length < 4611686018427387904) :
    Calls Tryz.prog 82 #[.slice (some ⟨blk, off, none⟩) zs.length cap] w fun e w' =>
      e = .returned (.tuple #[]) ∧ ∃ n os, w' = grow (putRow (Value.int .i64) (Sort.ahead w n) blk off (zs.mergeSort fun x y => decide (x ≤ y)).toArray) os := Any.slices_Sort_int Tryz.lays189 blk off cap zs w hH hblk hsz
open Go.RowKit Go.Sort in
/-- .. and plain. (LAID: no walk: one application.) -/
theorem Tryz.slices_Sort_int_none (p : Option Addr) (cap : Nat) (w : World) :
    Calls Tryz.prog 82 #[.slice p 0 cap] w fun e w' => e = .returned (.tuple #[]) ∧ w' = w := Any.slices_Sort_int_none Tryz.lays189 p cap w
end Go.Proofs

/- Rescue: places sorted; the worst place, plain. -/
namespace Go.Proofs.YtlbgocgocanloaaGreatDoor
open Go.RowKit
def sortI (l : List Int) : List Int := l.mergeSort fun x y => decide (x ≤ y)
theorem sortI_len (l : List Int) : (sortI l).length = l.length := List.length_mergeSort _
def SortPost (w : World) (blk : Nat) (zs : List Int) (e : Ending) (w' : World) : Prop :=
  e = .returned (.tuple #[]) ∧ (∀ k u, (intCells (sortI zs))[k]? = some u → w'.cell? ⟨blk, k, none⟩ = some u) ∧ (∀ k, k < w.heap.size → k ≠ blk → w'.heap[k]? = w.heap[k]?) ∧ Below blk w w'
open Go.Sort in
theorem Sort_own (w : World) (B blk cap : Nat) (zs : List Int) (h : w.ownsRow B 3 1 (.slice (some ⟨blk, 0, none⟩) zs.length cap) zs.length (intCells zs)) (hlen : zs.length ≤ 1000000) :
    Calls Tryz.prog 82 #[.slice (some ⟨blk, 0, none⟩) zs.length cap] w (SortPost w blk zs) := by
  have hblk : blk < w.heap.size := (ownBlk h rfl).2.1
  have hH : Holds (Value.int .i64) w blk 0 zs.toArray := by
    intro j hj
    have hj' : j < zs.length := by simpa using hj
    refine ⟨?_, by simpa using h.frozenAt (0 + j)⟩
    rw [Nat.zero_add, h.cellAt j (by omega)]
    simp [intCells, hj']
  refine (Tryz.slices_Sort_int blk 0 cap zs w hH hblk (by omega)).mono ?_
  rintro e w' ⟨rfl, n, os, rfl⟩
  have hs : (sortI zs).toArray.size = zs.toArray.size := by simp [sortI_len]
  have hsz : (putRow (Value.int .i64) (Sort.ahead w n) blk 0 (sortI zs).toArray).heap.size = w.heap.size := by simp [putRow, mapBlock, Sort.ahead]
  refine ⟨rfl, ?_, ?_, ⟨rfl, rfl, rfl, ?_, ?_⟩⟩
  · intro k u hu
    have hk : k < (sortI zs).length := by
      have := (List.getElem?_eq_some_iff.1 hu).1
      simpa [intCells] using this
    show World.cell? (grow (putRow (Value.int .i64) (Sort.ahead w n) blk 0 (sortI zs).toArray) os) _ = _
    rw [cell?_grow _ _ _ (by rw [hsz]; exact hblk)]
    have h1 := cell?_putRow (Value.int .i64) (Sort.ahead w n) blk 0 zs.toArray (sortI zs).toArray hH hs k (by simpa using hk)
    rw [Nat.zero_add] at h1
    rw [h1]
    rw [← hu]
    simp [intCells, hk]
  · intro k hk hne
    show (grow (putRow (Value.int .i64) (Sort.ahead w n) blk 0 (sortI zs).toArray) os).heap[k]? = _
    rw [heap_grow_old _ _ (by rw [hsz]; exact hk)]
    simp only [putRow, mapBlock, Sort.ahead, Array.getElem?_modify]
    rw [if_neg (fun e => hne e.symm)]
  · show w.heap.size ≤ (grow (putRow (Value.int .i64) (Sort.ahead w n) blk 0 (sortI zs).toArray) os).heap.size
    rw [size_grow, hsz]
    omega
  · intro k hk
    show (grow (putRow (Value.int .i64) (Sort.ahead w n) blk 0 (sortI zs).toArray) os).heap[k]? = _
    rw [heap_grow_old _ _ (by rw [hsz]; omega)]
    simp only [putRow, mapBlock, Sort.ahead, Array.getElem?_modify]
    rw [if_neg (by omega)]
end Go.Proofs.YtlbgocgocanloaaGreatDoor

/- Rescue: worst, the walk. -/
namespace Go.Proofs.YtlbgocgocanloaaGreatDoor
open Go.RowKit
theorem RescueAt.keepB {w w' : World} {B K g1 g2 : Nat} {L : Int} {A D : Option Addr} {n c m e : Nat} {l : List Dep} {ds : List Nat} (h : RescueAt w B g1 g2 L A D n c m e l ds) (hb : Below K w w') (hB : B ≤ K) (h1 : g1 < K) (h2 : g2 < K) : RescueAt w' B g1 g2 L A D n c m e l ds :=
  ⟨keptB hb h2 h.c0, keptB hb h2 h.c1, keptB hb h1 h.d0, h.rl.below (hb.mono hB), h.rd.below (hb.mono hB), h.ln, h.lm, h.ok, h.ix, h.n1, h.m1, Nat.le_trans h.B1 hb.size⟩
end Go.Proofs.YtlbgocgocanloaaGreatDoor
