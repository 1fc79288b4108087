/-
  DERIVED: THE SHELF's CONTRACTS AT THIS DUMP, IN PLAIN WORDS (tools/lay-plain.mjs out of 'YtlbgocgocanloaaGreatDoorShelf.lean', which tools/lay-shelf.mjs wrote): THE SAME DECLARATIONS UNDER THE SAME NAMES: 'import', 'namespace', 'open', 'def', 'theorem' AND NOTHING ELSE: no command of the shelf's: FOR A HAND-IN. Each laying: the table of numbers ('.._ren') and one theorem, a field a fact of the dump's own or the kernel's comparison; each contract: ONE APPLICATION.
-/
import Derived.Test.YtlbgocgocanloaaGreatDoorProg
import Derived.Shelf.Strings.Builder1
import Derived.Shelf.Strings.Builder2
import Derived.Shelf.Strings.OnBuilder
import Derived.Shelf.Small.Bits
import Derived.Shelf.Strconv.Atoi
import Derived.Shelf.Strconv.Itoa0
import Derived.Shelf.Strconv.Itoa1
import Derived.Shelf.LaysM
import Derived.Shelf.Strconv.Itoa2
import Derived.Shelf.Strconv.Itoa3
import Derived.Shelf.Strconv.AtoiErrFast
import Derived.Shelf.Strconv.ParseIntEmpty
import Derived.Shelf.Strconv.AtoiFail
import Derived.Shelf.Strconv.Clone
import Derived.Shelf.Strconv.SyntaxError
import Derived.Shelf.LaysC
import Derived.Shelf.Strconv.ToError
import Derived.Shelf.Strconv.Lower
import Derived.Shelf.Strconv.ParseUint10
import Derived.Shelf.Strconv.ParseUint10Empty
import Derived.Shelf.Strconv.ParseUint10Any
import Derived.Shelf.Strconv.ParseInt10
import Derived.Shelf.Strconv.AtoiLong
import Derived.Shelf.Strconv.AtoiInnerAll
import Derived.Shelf.Strconv.RangeError
import Derived.Shelf.Strconv.ToErrorRange
import Derived.Shelf.Strconv.AtoiAll
import Derived.Shelf.Strings.Search1
import Derived.Shelf.Strings.Search2
import Derived.Shelf.Strings.Search3
import Derived.Shelf.Strings.Cut
import Derived.Shelf.Strings.Count
import Derived.Shelf.Strings.Shaped
import Derived.Shelf.Strings.Prefix
import Derived.Shelf.Strings.Split
import Derived.Shelf.Bits.Mul64
import Derived.Shelf.Unicode.DecodeSlow
import Derived.Ground.Names2Prog
import Derived.Shelf.Slices.Clone
import Derived.Shelf.Slices.SearchI
import Derived.Ground.SlgnProg
import Derived.Shelf.SlicesE.Clone
namespace Go.Proofs
open Go.Shelf
def Tryz.laysM171_ren : Go.Shelf.Ren := ⟨fun | 171 => 42 | 243 => 87 | 246 => 125 | 283 => 156 | 284 => 157 | 285 => 158 | 286 => 159 | 129 => 154 | 317 => 189 | 318 => 190 | 319 => 191 | 320 => 192 | 337 => 204 | 338 => 205 | n => n, fun | 3 => 3 | 9 => 9 | 2 => 2 | 4 => 4 | 171 => 218 | 0 => 0 | 53 => 216 | 37 => 163 | 5 => 5 | 173 => 220 | 212 => 248 | 51 => 214 | 20 => 20 | 213 => 249 | 46 => 189 | 232 => 277 | 233 => 278 | n => n, fun | 17 => 2 | 18 => 7 | 19 => 8 | n => n⟩
theorem Tryz.laysM171 : Go.Proofs.LaysM.n171 Tryz.prog Tryz.laysM171_ren := {
  mixed := by kernel_rfl
  f129 := Tryz.func154.trans (congrArg some (by kernel_rfl))
  f171 := Tryz.func42.trans (congrArg some (by kernel_rfl))
  f243 := Tryz.func87.trans (congrArg some (by kernel_rfl))
  f246 := Tryz.func125.trans (congrArg some (by kernel_rfl))
  f283 := Tryz.func156.trans (congrArg some (by kernel_rfl))
  f284 := Tryz.func157.trans (congrArg some (by kernel_rfl))
  f285 := Tryz.func158.trans (congrArg some (by kernel_rfl))
  f286 := Tryz.func159.trans (congrArg some (by kernel_rfl))
  f317 := Tryz.func189.trans (congrArg some (by kernel_rfl))
  f318 := Tryz.func190.trans (congrArg some (by kernel_rfl))
  f319 := Tryz.func191.trans (congrArg some (by kernel_rfl))
  f320 := Tryz.func192.trans (congrArg some (by kernel_rfl))
  f337 := Tryz.func204.trans (congrArg some (by kernel_rfl))
  f338 := Tryz.func205.trans (congrArg some (by kernel_rfl))
  t0 := Tryz.underlying0
  a0 := Tryz.isAgg0
  z0 := Tryz.sizeOf0
  v0 := Tryz.zeroValue0
  t2 := Tryz.underlying2
  a2 := Tryz.isAgg2
  z2 := Tryz.sizeOf2
  v2 := Tryz.zeroValue2
  t3 := Tryz.underlying3
  a3 := Tryz.isAgg3
  z3 := Tryz.sizeOf3
  v3 := Tryz.zeroValue3
  t4 := Tryz.underlying4
  a4 := Tryz.isAgg4
  z4 := Tryz.sizeOf4
  v4 := Tryz.zeroValue4
  t5 := Tryz.underlying5
  a5 := Tryz.isAgg5
  z5 := Tryz.sizeOf5
  v5 := Tryz.zeroValue5
  t9 := Tryz.underlying9
  a9 := Tryz.isAgg9
  z9 := Tryz.sizeOf9
  v9 := Tryz.zeroValue9
  t20 := Tryz.underlying20
  a20 := Tryz.isAgg20
  z20 := Tryz.sizeOf20
  v20 := Tryz.zeroValue20
  t37 := Tryz.underlying163
  a37 := Tryz.isAgg163
  z37 := Tryz.sizeOf163
  v37 := Tryz.zeroValue163
  t46 := Tryz.underlying189
  a46 := Tryz.isAgg189
  z46 := Tryz.sizeOf189
  v46 := Tryz.zeroValue189
  t51 := Tryz.underlying214
  a51 := Tryz.isAgg214
  z51 := Tryz.sizeOf214
  v51 := Tryz.zeroValue214
  t53 := Tryz.underlying216
  a53 := Tryz.isAgg216
  z53 := Tryz.sizeOf216
  v53 := Tryz.zeroValue216
  t171 := Tryz.underlying218
  a171 := Tryz.isAgg218
  z171 := Tryz.sizeOf218
  v171 := Tryz.zeroValue218
  t173 := Tryz.underlying220
  a173 := Tryz.isAgg220
  z173 := Tryz.sizeOf220
  v173 := Tryz.zeroValue220
  t212 := Tryz.underlying248
  a212 := Tryz.isAgg248
  z212 := Tryz.sizeOf248
  v212 := Tryz.zeroValue248
  t213 := Tryz.underlying249
  a213 := Tryz.isAgg249
  z213 := Tryz.sizeOf249
  t232 := Tryz.underlying277
  a232 := Tryz.isAgg277
  z232 := Tryz.sizeOf277
  v232 := Tryz.zeroValue277
  t233 := Tryz.underlying278
  a233 := Tryz.isAgg278
  z233 := Tryz.sizeOf278
  v233 := Tryz.zeroValue278
  g17 := by kernel_rfl
  g18 := by kernel_rfl
  g19 := by kernel_rfl
  i0 := by kernel_rfl
  i2 := by kernel_rfl
  i3 := by kernel_rfl
  i4 := by kernel_rfl
  i5 := by kernel_rfl
  i9 := by kernel_rfl
  i20 := by kernel_rfl
  i37 := by kernel_rfl
  i46 := by kernel_rfl
  i51 := by kernel_rfl
  i53 := by kernel_rfl
  i171 := by kernel_rfl
  i173 := by kernel_rfl
  i212 := by kernel_rfl
  i232 := by kernel_rfl
  i233 := by kernel_rfl
  m17 := by kernel_rfl
  m18 := by kernel_rfl
  m19 := by kernel_rfl }
open Go.RowKit Go.Sort Go.Lib in
/-- strconv.Itoa: "Itoa is equivalent to FormatInt(int64(i), 10).": i's DECIMAL NUMERAL ('Lib.itoa': a '-' where i is negative, then the digits), FOR EVERY int. The world behind the call: the world before it, new blocks behind the heap (the library's 'var a [24]byte'), draws. (LAID: no walk: one application.) -/
theorem Tryz.strconv_Itoa (n : Int) (h0 : -9223372036854775808 ≤ n) (h1 : n ≤ 9223372036854775807) (w : World) (htab : Lib.TabIs Tryz.prog w "internal/strconv.uint64pow10" .u64 Lib.pow10Tab) :
    Calls Tryz.prog 42 #[.int .i64 n] w fun e w' => e = .returned (.string ⟨(Lib.itoa n).toArray⟩) ∧ ∃ k os, w' = grow (w.drewN k) os := Any.strconv_Itoa Tryz.laysM171 n h0 h1 w htab
def Tryz.laysC172_ren : Go.Shelf.Ren := ⟨fun | 172 => 92 | 244 => 129 | 245 => 130 | 247 => 166 | 279 => 167 | 280 => 168 | 281 => 169 | 282 => 170 | 287 => 195 | 316 => 196 | 171 => 42 | 205 => 197 | 321 => 206 | 322 => 207 | 243 => 87 | 246 => 125 | 283 => 156 | 284 => 157 | 285 => 158 | 286 => 159 | 129 => 154 | 317 => 189 | 318 => 190 | 319 => 191 | 320 => 192 | 337 => 204 | 338 => 205 | n => n, fun | 9 => 9 | 3 => 3 | 75 => 168 | 76 => 169 | 4 => 4 | 5 => 5 | 167 => 226 | 37 => 163 | 0 => 0 | 85 => 227 | 2 => 2 | 168 => 229 | 53 => 216 | 175 => 252 | 46 => 189 | 210 => 256 | 127 => 193 | 145 => 268 | 143 => 266 | 21 => 21 | 171 => 218 | 173 => 220 | 212 => 248 | 51 => 214 | 20 => 20 | 213 => 249 | 232 => 277 | 233 => 278 | 80 => 171 | n => n, fun | 15 => 3 | 16 => 4 | 17 => 2 | 18 => 7 | 19 => 8 | n => n⟩
theorem Tryz.laysC172 : Go.Proofs.LaysC.n172 Tryz.prog Tryz.laysC172_ren := {
  mixed := by kernel_rfl
  f129 := Tryz.func154.trans (congrArg some (by kernel_rfl))
  f171 := Tryz.func42.trans (congrArg some (by kernel_rfl))
  f172 := Tryz.func92.trans (congrArg some (by kernel_rfl))
  f205 := Tryz.func197.trans (congrArg some (by kernel_rfl))
  f243 := Tryz.func87.trans (congrArg some (by kernel_rfl))
  f244 := Tryz.func129.trans (congrArg some (by kernel_rfl))
  f245 := Tryz.func130.trans (congrArg some (by kernel_rfl))
  f246 := Tryz.func125.trans (congrArg some (by kernel_rfl))
  f247 := Tryz.func166.trans (congrArg some (by kernel_rfl))
  f279 := Tryz.func167.trans (congrArg some (by kernel_rfl))
  f280 := Tryz.func168.trans (congrArg some (by kernel_rfl))
  f281 := Tryz.func169.trans (congrArg some (by kernel_rfl))
  f282 := Tryz.func170.trans (congrArg some (by kernel_rfl))
  f283 := Tryz.func156.trans (congrArg some (by kernel_rfl))
  f284 := Tryz.func157.trans (congrArg some (by kernel_rfl))
  f285 := Tryz.func158.trans (congrArg some (by kernel_rfl))
  f286 := Tryz.func159.trans (congrArg some (by kernel_rfl))
  f287 := Tryz.func195.trans (congrArg some (by kernel_rfl))
  f316 := Tryz.func196.trans (congrArg some (by kernel_rfl))
  f317 := Tryz.func189.trans (congrArg some (by kernel_rfl))
  f318 := Tryz.func190.trans (congrArg some (by kernel_rfl))
  f319 := Tryz.func191.trans (congrArg some (by kernel_rfl))
  f320 := Tryz.func192.trans (congrArg some (by kernel_rfl))
  f321 := Tryz.func206.trans (congrArg some (by kernel_rfl))
  f322 := Tryz.func207.trans (congrArg some (by kernel_rfl))
  f337 := Tryz.func204.trans (congrArg some (by kernel_rfl))
  f338 := Tryz.func205.trans (congrArg some (by kernel_rfl))
  t0 := Tryz.underlying0
  a0 := Tryz.isAgg0
  z0 := Tryz.sizeOf0
  v0 := Tryz.zeroValue0
  t2 := Tryz.underlying2
  a2 := Tryz.isAgg2
  z2 := Tryz.sizeOf2
  v2 := Tryz.zeroValue2
  t3 := Tryz.underlying3
  a3 := Tryz.isAgg3
  z3 := Tryz.sizeOf3
  v3 := Tryz.zeroValue3
  t4 := Tryz.underlying4
  a4 := Tryz.isAgg4
  z4 := Tryz.sizeOf4
  v4 := Tryz.zeroValue4
  t5 := Tryz.underlying5
  a5 := Tryz.isAgg5
  z5 := Tryz.sizeOf5
  v5 := Tryz.zeroValue5
  t9 := Tryz.underlying9
  a9 := Tryz.isAgg9
  z9 := Tryz.sizeOf9
  v9 := Tryz.zeroValue9
  t20 := Tryz.underlying20
  a20 := Tryz.isAgg20
  z20 := Tryz.sizeOf20
  v20 := Tryz.zeroValue20
  t21 := Tryz.underlying21
  a21 := Tryz.isAgg21
  z21 := Tryz.sizeOf21
  v21 := Tryz.zeroValue21
  t37 := Tryz.underlying163
  a37 := Tryz.isAgg163
  z37 := Tryz.sizeOf163
  v37 := Tryz.zeroValue163
  t46 := Tryz.underlying189
  a46 := Tryz.isAgg189
  z46 := Tryz.sizeOf189
  v46 := Tryz.zeroValue189
  t51 := Tryz.underlying214
  a51 := Tryz.isAgg214
  z51 := Tryz.sizeOf214
  v51 := Tryz.zeroValue214
  t53 := Tryz.underlying216
  a53 := Tryz.isAgg216
  z53 := Tryz.sizeOf216
  v53 := Tryz.zeroValue216
  t75 := Tryz.underlying168
  a75 := Tryz.isAgg168
  z75 := Tryz.sizeOf168
  v75 := Tryz.zeroValue168
  t76 := Tryz.underlying169
  a76 := Tryz.isAgg169
  z76 := Tryz.sizeOf169
  v76 := Tryz.zeroValue169
  t85 := Tryz.underlying227
  a85 := Tryz.isAgg227
  z85 := Tryz.sizeOf227
  v85 := Tryz.zeroValue227
  t127 := Tryz.underlying193
  a127 := Tryz.isAgg193
  z127 := Tryz.sizeOf193
  v127 := Tryz.zeroValue193
  t143 := Tryz.underlying266
  a143 := Tryz.isAgg266
  z143 := Tryz.sizeOf266
  v143 := Tryz.zeroValue266
  t145 := Tryz.underlying268
  a145 := Tryz.isAgg268
  z145 := Tryz.sizeOf268
  v145 := Tryz.zeroValue268
  t167 := Tryz.underlying226
  a167 := Tryz.isAgg226
  z167 := Tryz.sizeOf226
  v167 := Tryz.zeroValue226
  t168 := Tryz.underlying229
  a168 := Tryz.isAgg229
  z168 := Tryz.sizeOf229
  v168 := Tryz.zeroValue229
  t171 := Tryz.underlying218
  a171 := Tryz.isAgg218
  z171 := Tryz.sizeOf218
  v171 := Tryz.zeroValue218
  t173 := Tryz.underlying220
  a173 := Tryz.isAgg220
  z173 := Tryz.sizeOf220
  v173 := Tryz.zeroValue220
  t175 := Tryz.underlying252
  a175 := Tryz.isAgg252
  z175 := Tryz.sizeOf252
  v175 := Tryz.zeroValue252
  t210 := Tryz.underlying256
  a210 := Tryz.isAgg256
  z210 := Tryz.sizeOf256
  v210 := Tryz.zeroValue256
  t212 := Tryz.underlying248
  a212 := Tryz.isAgg248
  z212 := Tryz.sizeOf248
  v212 := Tryz.zeroValue248
  t213 := Tryz.underlying249
  a213 := Tryz.isAgg249
  z213 := Tryz.sizeOf249
  t232 := Tryz.underlying277
  a232 := Tryz.isAgg277
  z232 := Tryz.sizeOf277
  v232 := Tryz.zeroValue277
  t233 := Tryz.underlying278
  a233 := Tryz.isAgg278
  z233 := Tryz.sizeOf278
  v233 := Tryz.zeroValue278
  g15 := by kernel_rfl
  g16 := by kernel_rfl
  g17 := by kernel_rfl
  g18 := by kernel_rfl
  g19 := by kernel_rfl
  t80 := Tryz.underlying171
  a80 := Tryz.isAgg171
  z80 := Tryz.sizeOf171
  v80 := Tryz.zeroValue171
  i0 := by kernel_rfl
  i2 := by kernel_rfl
  i3 := by kernel_rfl
  i4 := by kernel_rfl
  i5 := by kernel_rfl
  i9 := by kernel_rfl
  i20 := by kernel_rfl
  i21 := by kernel_rfl
  i37 := by kernel_rfl
  i46 := by kernel_rfl
  i51 := by kernel_rfl
  i53 := by kernel_rfl
  i75 := by kernel_rfl
  i76 := by kernel_rfl
  i80 := by kernel_rfl
  i85 := by kernel_rfl
  i127 := by kernel_rfl
  i143 := by kernel_rfl
  i145 := by kernel_rfl
  i167 := by kernel_rfl
  i168 := by kernel_rfl
  i171 := by kernel_rfl
  i173 := by kernel_rfl
  i175 := by kernel_rfl
  i210 := by kernel_rfl
  i212 := by kernel_rfl
  i232 := by kernel_rfl
  i233 := by kernel_rfl
  m15 := by kernel_rfl
  m16 := by kernel_rfl
  m17 := by kernel_rfl
  m18 := by kernel_rfl
  m19 := by kernel_rfl
  c0 := by kernel_rfl
  c2 := by kernel_rfl
  c3 := by kernel_rfl
  c4 := by kernel_rfl
  c5 := by kernel_rfl
  c9 := by kernel_rfl
  c20 := by kernel_rfl
  c21 := by kernel_rfl
  c37 := by kernel_rfl
  c46 := by kernel_rfl
  c51 := by kernel_rfl
  c53 := by kernel_rfl
  c75 := by kernel_rfl
  c76 := by kernel_rfl
  c80 := by kernel_rfl
  c85 := by kernel_rfl
  c127 := by kernel_rfl
  c143 := by kernel_rfl
  c145 := by kernel_rfl
  c167 := by kernel_rfl
  c168 := by kernel_rfl
  c171 := by kernel_rfl
  c173 := by kernel_rfl
  c175 := by kernel_rfl
  c210 := by kernel_rfl
  c212 := by kernel_rfl
  c213 := by kernel_rfl
  c232 := by kernel_rfl
  c233 := by kernel_rfl }
open Go.RowKit in
/-- strconv.Atoi, AT EVERY STRING THAT SPELLS AN int ('Lib.atoiAll .. = .ok v'; of whatever length: leading zeros count): v, AND NO ERROR. The world: as it was, or with the one new row that '[]byte(..)' lays. (LAID: no walk: one application.) -/
theorem Tryz.strconv_Atoi_ok (s : ByteArray) (hmax : s.size ≤ 9223372036854775806) (v : Int) (h : Lib.atoiAll s.data.toList = .ok v) (w : World) :
    Calls Tryz.prog 92 #[.string s] w fun e w' => e = .returned (.tuple #[.int .i64 v, .nilIface]) ∧ (w' = w ∨ ∃ t, w' = Lib.bytesWorld w 5 t) := Any.strconv_Atoi_ok Tryz.laysC172 s hmax v h w
open Go.RowKit in
/-- strconv.Atoi, AT EVERY STRING THAT IS NO DECIMAL NUMERAL ('.syntax'): 0, AND AN ERROR THAT IS NOT nil: a *NumError in a new block N: {Func: "Atoi", Num: s's bytes, Err: what the variable ErrSyntax holds}. Of what was there nothing has turned. (LAID: no walk: one application.) -/
theorem Tryz.strconv_Atoi_syntax (s : ByteArray) (hlim : s.size ≤ 281474976710656) (hno : ∀ v, Lib.atoiAll s.data.toList ≠ .ok v) (hnr : Lib.atoiAll s.data.toList ≠ .range) (ev : Value) (w : World) (hv : w.cell? ⟨3, 0, none⟩ = some ev) (hev : ev = .nilIface ∨ ∃ te pe, ev = .iface te pe) :
    Calls Tryz.prog 92 #[.string s] w fun e w' => ∃ N, e = .returned (.tuple #[.int .i64 (0), .iface 229 (.pointer (some ⟨N, 0, none⟩))]) ∧ w.heap.size ≤ N ∧ w'.heap[N]? = some (.cells #[.string ⟨#[65, 116, 111, 105]⟩, .string s, ev] 256 (0, 0)) ∧ Below w.heap.size w w' := Any.strconv_Atoi_syntax Tryz.laysC172 s hlim (by cases hA : Lib.atoiAll s.data.toList; exact absurd hA (hno _); rfl; exact absurd hA hnr) ev w hv hev
open Go.RowKit in
/-- strconv.Atoi, AT EVERY NUMERAL THAT NO int HOLDS ('.range'): THE GREATEST OR THE LEAST int, BY THE SIGN ('Lib.atoiSat'), AND AN ERROR THAT IS NOT nil: a *NumError in a new block N: {Func: "Atoi", Num: s's bytes, Err: what the variable ErrRange holds}. Of what was there nothing has turned. (LAID: no walk: one application.) -/
theorem Tryz.strconv_Atoi_range (s : ByteArray) (hlim : s.size ≤ 281474976710656) (h : Lib.atoiAll s.data.toList = .range) (ev : Value) (w : World) (hv : w.cell? ⟨4, 0, none⟩ = some ev) (hev : ev = .nilIface ∨ ∃ te pe, ev = .iface te pe) :
    Calls Tryz.prog 92 #[.string s] w fun e w' => ∃ N, e = .returned (.tuple #[.int .i64 (Lib.atoiSat s.data.toList), .iface 229 (.pointer (some ⟨N, 0, none⟩))]) ∧ w.heap.size ≤ N ∧ w'.heap[N]? = some (.cells #[.string ⟨#[65, 116, 111, 105]⟩, .string s, ev] 256 (0, 0)) ∧ Below w.heap.size w w' := Any.strconv_Atoi_range Tryz.laysC172 s hlim h ev w hv hev
def Tryz.lays145_ren : Go.Shelf.Ren := ⟨fun | 145 => 44 | 220 => 91 | 219 => 128 | 217 => 162 | 225 => 163 | 224 => 164 | 267 => 165 | 266 => 193 | 314 => 194 | n => n, fun | 9 => 9 | 4 => 4 | 59 => 105 | 3 => 3 | 5 => 5 | 46 => 189 | 146 => 250 | 51 => 214 | n => n, fun | 1 => 1 | n => n⟩
theorem Tryz.lays145 : Go.Proofs.Lays.n145 Tryz.prog Tryz.lays145_ren := {
  mixed := by kernel_rfl
  f145 := Tryz.func44.trans (congrArg some (by kernel_rfl))
  f217 := Tryz.func162.trans (congrArg some (by kernel_rfl))
  f219 := Tryz.func128.trans (congrArg some (by kernel_rfl))
  f220 := Tryz.func91.trans (congrArg some (by kernel_rfl))
  f224 := Tryz.func164.trans (congrArg some (by kernel_rfl))
  f225 := Tryz.func163.trans (congrArg some (by kernel_rfl))
  f266 := Tryz.func193.trans (congrArg some (by kernel_rfl))
  f267 := Tryz.func165.trans (congrArg some (by kernel_rfl))
  f314 := Tryz.func194.trans (congrArg some (by kernel_rfl))
  t3 := Tryz.underlying3
  a3 := Tryz.isAgg3
  z3 := Tryz.sizeOf3
  v3 := Tryz.zeroValue3
  t4 := Tryz.underlying4
  a4 := Tryz.isAgg4
  z4 := Tryz.sizeOf4
  v4 := Tryz.zeroValue4
  t5 := Tryz.underlying5
  a5 := Tryz.isAgg5
  z5 := Tryz.sizeOf5
  v5 := Tryz.zeroValue5
  t9 := Tryz.underlying9
  a9 := Tryz.isAgg9
  z9 := Tryz.sizeOf9
  v9 := Tryz.zeroValue9
  t46 := Tryz.underlying189
  a46 := Tryz.isAgg189
  z46 := Tryz.sizeOf189
  v46 := Tryz.zeroValue189
  t51 := Tryz.underlying214
  a51 := Tryz.isAgg214
  z51 := Tryz.sizeOf214
  v51 := Tryz.zeroValue214
  t59 := Tryz.underlying105
  a59 := Tryz.isAgg105
  z59 := Tryz.sizeOf105
  v59 := Tryz.zeroValue105
  t146 := Tryz.underlying250
  a146 := Tryz.isAgg250
  z146 := Tryz.sizeOf250
  v146 := Tryz.zeroValue250
  g1 := by kernel_rfl }
open Go.RowKit Go.Lib in
/-- strings.Cut: "Cut slices s around the first instance of sep, returning the text before and after sep. The found result reports whether sep appears in s. If sep does not appear in s, cut returns s, "", false.": IT RETURNS 'Lib.cut s sep'; the world is as it was but for the count of draws. (LAID: no walk: one application.) -/
theorem Tryz.strings_Cut (s sep : ByteArray) (m : Int) (w : World) (hs : s.size < 4294967281) (hm : w.cell? ⟨1, 0, none⟩ = some (.int .i64 m)) :
    Calls Tryz.prog 44 #[.string s, .string sep] w fun e w' => e = .returned (.tuple #[.string ⟨(Lib.cut s.data.toList sep.data.toList).1.toArray⟩, .string ⟨(Lib.cut s.data.toList sep.data.toList).2.1.toArray⟩, .bool (Lib.cut s.data.toList sep.data.toList).2.2]) ∧ ∃ n, w' = w.drewN n := Any.strings_Cut Tryz.lays145 s sep m w hs hm
def Tryz.laysM145_ren : Go.Shelf.Ren := ⟨fun | 145 => 44 | 220 => 91 | 219 => 128 | 217 => 162 | 225 => 163 | 224 => 164 | 267 => 165 | 266 => 193 | 314 => 194 | n => n, fun | 9 => 9 | 4 => 4 | 59 => 105 | 3 => 3 | 5 => 5 | 46 => 189 | 146 => 250 | 51 => 214 | n => n, fun | 1 => 1 | n => n⟩
theorem Tryz.laysM145 : Go.Proofs.LaysM.n145 Tryz.prog Tryz.laysM145_ren := {
  mixed := by kernel_rfl
  f145 := Tryz.func44.trans (congrArg some (by kernel_rfl))
  f217 := Tryz.func162.trans (congrArg some (by kernel_rfl))
  f219 := Tryz.func128.trans (congrArg some (by kernel_rfl))
  f220 := Tryz.func91.trans (congrArg some (by kernel_rfl))
  f224 := Tryz.func164.trans (congrArg some (by kernel_rfl))
  f225 := Tryz.func163.trans (congrArg some (by kernel_rfl))
  f266 := Tryz.func193.trans (congrArg some (by kernel_rfl))
  f267 := Tryz.func165.trans (congrArg some (by kernel_rfl))
  f314 := Tryz.func194.trans (congrArg some (by kernel_rfl))
  t3 := Tryz.underlying3
  a3 := Tryz.isAgg3
  z3 := Tryz.sizeOf3
  v3 := Tryz.zeroValue3
  t4 := Tryz.underlying4
  a4 := Tryz.isAgg4
  z4 := Tryz.sizeOf4
  v4 := Tryz.zeroValue4
  t5 := Tryz.underlying5
  a5 := Tryz.isAgg5
  z5 := Tryz.sizeOf5
  v5 := Tryz.zeroValue5
  t9 := Tryz.underlying9
  a9 := Tryz.isAgg9
  z9 := Tryz.sizeOf9
  v9 := Tryz.zeroValue9
  t46 := Tryz.underlying189
  a46 := Tryz.isAgg189
  z46 := Tryz.sizeOf189
  v46 := Tryz.zeroValue189
  t51 := Tryz.underlying214
  a51 := Tryz.isAgg214
  z51 := Tryz.sizeOf214
  v51 := Tryz.zeroValue214
  t59 := Tryz.underlying105
  a59 := Tryz.isAgg105
  z59 := Tryz.sizeOf105
  v59 := Tryz.zeroValue105
  t146 := Tryz.underlying250
  a146 := Tryz.isAgg250
  z146 := Tryz.sizeOf250
  v146 := Tryz.zeroValue250
  g1 := by kernel_rfl
  i3 := by kernel_rfl
  i4 := by kernel_rfl
  i5 := by kernel_rfl
  i9 := by kernel_rfl
  i46 := by kernel_rfl
  i51 := by kernel_rfl
  i59 := by kernel_rfl
  i146 := by kernel_rfl
  m1 := by kernel_rfl
  s1_3 := fun w h => Go.Proofs.cell_of_shapedOpen_int (zero := #[.int .i64 0]) (t := 3) h (of_decide_eq_true (by kernel_rfl)) (by kernel_rfl) rfl (by kernel_rfl) (by kernel_rfl) Tryz.underlying3 }
def Tryz.lays101_ren : Go.Shelf.Ren := ⟨fun | 101 => 93 | 208 => 131 | 206 => 171 | n => n, fun | 9 => 9 | 4 => 4 | 3 => 3 | n => n, fun | n => n⟩
theorem Tryz.lays101 : Go.Proofs.Lays.n101 Tryz.prog Tryz.lays101_ren := {
  mixed := by kernel_rfl
  f101 := Tryz.func93.trans (congrArg some (by kernel_rfl))
  f206 := Tryz.func171.trans (congrArg some (by kernel_rfl))
  f208 := Tryz.func131.trans (congrArg some (by kernel_rfl))
  t3 := Tryz.underlying3
  a3 := Tryz.isAgg3
  z3 := Tryz.sizeOf3
  v3 := Tryz.zeroValue3
  t4 := Tryz.underlying4
  a4 := Tryz.isAgg4
  z4 := Tryz.sizeOf4
  v4 := Tryz.zeroValue4
  t9 := Tryz.underlying9
  a9 := Tryz.isAgg9
  z9 := Tryz.sizeOf9
  v9 := Tryz.zeroValue9 }
open Go.RowKit Go.Lib in
/-- strings.TrimPrefix: "TrimPrefix returns s without the provided leading prefix string. If s doesn't start with prefix, s is returned unchanged.": IT RETURNS 'Lib.trimPrefix s prefix'; the world is as it was. (LAID: no walk: one application.) -/
theorem Tryz.strings_TrimPrefix (s p : ByteArray) (w : World) :
    Calls Tryz.prog 93 #[.string s, .string p] w fun e w' => e = .returned (.string ⟨(Lib.trimPrefix s.data.toList p.data.toList).toArray⟩) ∧ w' = w := Any.strings_TrimPrefix Tryz.lays101 s p w
def Tryz.lays212_ren : Go.Shelf.Ren := ⟨fun | 212 => 199 | 263 => 208 | 264 => 209 | n => n, fun | 46 => 189 | 51 => 214 | 146 => 250 | 53 => 216 | 148 => 274 | n => n, fun | n => n⟩
theorem Tryz.lays212 : Go.Proofs.Lays.n212 Tryz.prog Tryz.lays212_ren := {
  mixed := by kernel_rfl
  f212 := Tryz.func199.trans (congrArg some (by kernel_rfl))
  f263 := Tryz.func208.trans (congrArg some (by kernel_rfl))
  f264 := Tryz.func209.trans (congrArg some (by kernel_rfl))
  t46 := Tryz.underlying189
  a46 := Tryz.isAgg189
  z46 := Tryz.sizeOf189
  v46 := Tryz.zeroValue189
  t51 := Tryz.underlying214
  a51 := Tryz.isAgg214
  z51 := Tryz.sizeOf214
  v51 := Tryz.zeroValue214
  t53 := Tryz.underlying216
  a53 := Tryz.isAgg216
  z53 := Tryz.sizeOf216
  v53 := Tryz.zeroValue216
  t146 := Tryz.underlying250
  a146 := Tryz.isAgg250
  z146 := Tryz.sizeOf250
  v146 := Tryz.zeroValue250
  t148 := Tryz.underlying274
  a148 := Tryz.isAgg274
  z148 := Tryz.sizeOf274
  v148 := Tryz.zeroValue274 }
open Go.RowKit Go.Lib in
/-- math/bits.Mul: "Mul returns the full-width product of x and y": on a machine of 64 bits: Mul64's. (LAID: no walk: one application.) -/
theorem Tryz.bits_Mul (x y : Nat) (hx : x < 18446744073709551616) (hy : y < 18446744073709551616) (w : World) :
    Calls Tryz.prog 199 #[.int .u64 x, .int .u64 y] w fun e w' => e = .returned (.tuple #[.int .u64 ((x * y / 18446744073709551616 : Nat) : Int), .int .u64 ((x * y % 18446744073709551616 : Nat) : Int)]) ∧ w' = w := Any.bits_Mul Tryz.lays212 x y hx hy w
def Tryz.laysSlE041_f100_ren : Go.Shelf.Ren := ⟨fun | 41 => 100 | n => n, fun | 22 => 50 | 23 => 4 | 4 => 4 | n => n, fun | n => n⟩
theorem Tryz.laysSlE041_f100 : Go.Proofs.SlLaysE0.n41 Tryz.prog Tryz.laysSlE041_f100_ren := {
  mixed := by kernel_rfl
  f41 := ⟨Tryz.f100.name, by decide, Tryz.func100.trans (congrArg some (by kernel_rfl))⟩
  t4 := Tryz.underlying4
  a4 := Tryz.isAgg4
  z4 := Tryz.sizeOf4
  v4 := Tryz.zeroValue4
  t22 := Tryz.underlying50
  a22 := Tryz.isAgg50
  z22 := Tryz.sizeOf50
  v22 := Tryz.zeroValue50 }
open Go.RowKit Go.Lib in
/-- slices.Clone: "Clone returns a copy of the slice. The elements are copied using assignment, so this is a shallow clone. The result may have additional unused capacity. The result preserves the nilness of s.": OF A SLICE THAT IS NOT nil IT RETURNS A SLICE THAT IS NOT nil, OF THE SAME CELLS, IN MEMORY OF THE CALL's OWN ('ownsRow': the how-to's 6f); below the heap's size at the call all is as it was. (LAID AT THE INSTANCE 'slices.Clone[[]bool,bool]': no walk: one application.) -/
theorem Tryz.slices_Clone_f100 (i0 : TypeInfo) (z : Value) (size bytes : Nat) (hi : Tryz.prog.info? 4 = some i0) (hz0 : i0.zero = some z) (hz1 : i0.size = size) (hz2 : i0.bytes = bytes) (hzs : z.cells.size = size) (hsz : 0 < size) (z23 : ∀ w, (Go.sizeOf 4).run Tryz.prog w = .ok size w) (b off n c : Nat) (news : List Value) (w : World) (hl : news.length = n * size) (hn : n ≤ maxLen) (hbig : n * bytes ≤ 140737488355328) (hc : ∀ j u, news[j]? = some u → w.cell? ⟨b, off + j, none⟩ = some u) (h1 : ∀ u ∈ news, u.oneCell' = true) :
    Calls Tryz.prog 100 #[.slice (some ⟨b, off, none⟩) n c] w fun e w' => ∃ v', e = .returned v' ∧ w'.ownsRow w.heap.size 4 size v' n news ∧ v' ≠ .slice none 0 0 ∧ Below w.heap.size w w' := AnyE.slices_Clone Tryz.laysSlE041_f100 i0 z size bytes hi hz0 hz1 hz2 hzs hsz z23 b off n c news w hl hn hbig hc h1
end Go.Proofs
