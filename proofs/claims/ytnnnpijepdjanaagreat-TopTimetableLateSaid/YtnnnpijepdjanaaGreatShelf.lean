/-
  DERIVED: THE SHELF's CONTRACTS AT THIS DUMP, IN PLAIN WORDS (tools/lay-plain.mjs out of 'TryzShelf2.lean', which tools/lay-shelf.mjs wrote): THE SAME DECLARATIONS UNDER THE SAME NAMES: 'import', 'namespace', 'open', 'def', 'theorem' AND NOTHING ELSE: no command of the shelf's: FOR A HAND-IN. Each laying: the table of numbers ('.._ren') and one theorem, a field a fact of the dump's own or the kernel's comparison; each contract: ONE APPLICATION.
-/
import Derived.Shelf.Sort.Plain
import Derived.Ground.Names2Prog
import Derived.Shelf.Slices.In.SortNone
import Derived.Test.YtnnnpijepdjanaaGreatProg
namespace Go.Proofs
open Go.Shelf
def Tryz.lays189_ren : Go.Shelf.Ren := ⟨fun | 189 => 49 | 125 => 70 | 257 => 71 | 128 => 88 | 129 => 89 | 294 => 90 | 295 => 91 | 296 => 92 | 297 => 93 | 298 => 94 | 299 => 95 | 216 => 96 | 300 => 97 | 301 => 98 | 328 => 109 | 329 => 105 | 330 => 106 | 331 => 110 | 332 => 111 | 215 => 112 | 343 => 114 | n => n, fun | 28 => 26 | 3 => 3 | 46 => 128 | 0 => 0 | 51 => 145 | 53 => 147 | 4 => 4 | 183 => 139 | 182 => 138 | 131 => 134 | 5 => 5 | 9 => 9 | 218 => 160 | 222 => 164 | 228 => 168 | 229 => 61 | n => n, fun | n => n⟩
theorem Tryz.lays189 : Go.Proofs.Lays.n189 Tryz.prog Tryz.lays189_ren := {
  mixed := by kernel_rfl
  f125 := Tryz.func70.trans (congrArg some (by kernel_rfl))
  f128 := Tryz.func88.trans (congrArg some (by kernel_rfl))
  f129 := Tryz.func89.trans (congrArg some (by kernel_rfl))
  f189 := Tryz.func49.trans (congrArg some (by kernel_rfl))
  f215 := Tryz.func112.trans (congrArg some (by kernel_rfl))
  f216 := Tryz.func96.trans (congrArg some (by kernel_rfl))
  f257 := Tryz.func71.trans (congrArg some (by kernel_rfl))
  f294 := Tryz.func90.trans (congrArg some (by kernel_rfl))
  f295 := Tryz.func91.trans (congrArg some (by kernel_rfl))
  f296 := Tryz.func92.trans (congrArg some (by kernel_rfl))
  f297 := Tryz.func93.trans (congrArg some (by kernel_rfl))
  f298 := Tryz.func94.trans (congrArg some (by kernel_rfl))
  f299 := Tryz.func95.trans (congrArg some (by kernel_rfl))
  f300 := Tryz.func97.trans (congrArg some (by kernel_rfl))
  f301 := Tryz.func98.trans (congrArg some (by kernel_rfl))
  f328 := Tryz.func109.trans (congrArg some (by kernel_rfl))
  f329 := Tryz.func105.trans (congrArg some (by kernel_rfl))
  f330 := Tryz.func106.trans (congrArg some (by kernel_rfl))
  f331 := Tryz.func110.trans (congrArg some (by kernel_rfl))
  f332 := Tryz.func111.trans (congrArg some (by kernel_rfl))
  f343 := Tryz.func114.trans (congrArg some (by kernel_rfl))
  t0 := Tryz.underlying0
  a0 := Tryz.isAgg0
  z0 := Tryz.sizeOf0
  v0 := Tryz.zeroValue0
  t3 := Tryz.underlying3
  a3 := Tryz.isAgg3
  z3 := Tryz.sizeOf3
  v3 := Tryz.zeroValue3
  t4 := Tryz.underlying4
  a4 := Tryz.isAgg4
  z4 := Tryz.sizeOf4
  v4 := Tryz.zeroValue4
  t5 := Tryz.underlying5
  a5 := Tryz.isAgg5
  z5 := Tryz.sizeOf5
  v5 := Tryz.zeroValue5
  t9 := Tryz.underlying9
  a9 := Tryz.isAgg9
  z9 := Tryz.sizeOf9
  v9 := Tryz.zeroValue9
  t28 := Tryz.underlying26
  a28 := Tryz.isAgg26
  z28 := Tryz.sizeOf26
  v28 := Tryz.zeroValue26
  t46 := Tryz.underlying128
  a46 := Tryz.isAgg128
  z46 := Tryz.sizeOf128
  v46 := Tryz.zeroValue128
  t51 := Tryz.underlying145
  a51 := Tryz.isAgg145
  z51 := Tryz.sizeOf145
  v51 := Tryz.zeroValue145
  t53 := Tryz.underlying147
  a53 := Tryz.isAgg147
  z53 := Tryz.sizeOf147
  v53 := Tryz.zeroValue147
  t131 := Tryz.underlying134
  a131 := Tryz.isAgg134
  z131 := Tryz.sizeOf134
  v131 := Tryz.zeroValue134
  t182 := Tryz.underlying138
  a182 := Tryz.isAgg138
  z182 := Tryz.sizeOf138
  v182 := Tryz.zeroValue138
  t183 := Tryz.underlying139
  a183 := Tryz.isAgg139
  z183 := Tryz.sizeOf139
  v183 := Tryz.zeroValue139
  t218 := Tryz.underlying160
  a218 := Tryz.isAgg160
  z218 := Tryz.sizeOf160
  v218 := Tryz.zeroValue160
  t222 := Tryz.underlying164
  a222 := Tryz.isAgg164
  z222 := Tryz.sizeOf164
  v222 := Tryz.zeroValue164
  t228 := Tryz.underlying168
  a228 := Tryz.isAgg168
  z228 := Tryz.sizeOf168
  v228 := Tryz.zeroValue168
  t229 := Tryz.underlying61
  a229 := Tryz.isAgg61
  z229 := Tryz.sizeOf61
  v229 := Tryz.zeroValue61 }
open Go.Sort Go.RowKit in
theorem Tryz.slices_Sort_int (blk off cap : Nat) (zs : List Int) (w : World) (hH : Holds (Value.int .i64) w blk off zs.toArray) (hblk : blk < w.heap.size) (hsz : zs.length < 4611686018427387904) :
    Calls Tryz.prog 49 #[.slice (some ⟨blk, off, none⟩) zs.length cap] w fun e w' =>
      e = .returned (.tuple #[]) ∧ ∃ n os, w' = grow (putRow (Value.int .i64) (Sort.ahead w n) blk off (zs.mergeSort fun x y => decide (x ≤ y)).toArray) os := Any.slices_Sort_int Tryz.lays189 blk off cap zs w hH hblk hsz
open Go.RowKit Go.Sort in
/-- .. and plain. (LAID: no walk: one application.) -/
theorem Tryz.slices_Sort_int_none (p : Option Addr) (cap : Nat) (w : World) :
    Calls Tryz.prog 49 #[.slice p 0 cap] w fun e w' => e = .returned (.tuple #[]) ∧ w' = w := Any.slices_Sort_int_none Tryz.lays189 p cap w
end Go.Proofs
