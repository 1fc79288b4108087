import Derived.Test.YtfdmeojcopkaoaaGreatDoorProg
import Derived.Shelf.Strings.Builder1
import Derived.Shelf.Strings.Builder2
import Derived.Shelf.Strings.OnBuilder
import Derived.Shelf.Small.Bits
import Derived.Shelf.Strings.BuilderF
import Derived.Shelf.Strings.BuilderK
import Derived.Shelf.Utf8.RuneCount
import Derived.Shelf.Strconv.Atoi
import Derived.Shelf.Strconv.Itoa0
import Derived.Shelf.Strconv.Itoa1
import Derived.Shelf.LaysM
import Derived.Shelf.Strconv.Itoa2
import Derived.Shelf.Strconv.Itoa3
import Derived.Shelf.Strconv.AtoiErrFast
import Derived.Shelf.Strconv.ParseIntEmpty
import Derived.Shelf.Strconv.AtoiFail
import Derived.Shelf.Strconv.Clone
import Derived.Shelf.Strconv.SyntaxError
import Derived.Shelf.LaysC
import Derived.Shelf.Strconv.ToError
import Derived.Shelf.Strconv.Lower
import Derived.Shelf.Strconv.ParseUint10
import Derived.Shelf.Strconv.ParseUint10Empty
import Derived.Shelf.Strconv.ParseUint10Any
import Derived.Shelf.Strconv.ParseInt10
import Derived.Shelf.Strconv.AtoiLong
import Derived.Shelf.Strconv.AtoiInnerAll
import Derived.Shelf.Strconv.RangeError
import Derived.Shelf.Strconv.ToErrorRange
import Derived.Shelf.Strconv.AtoiAll
import Derived.Shelf.Strconv.ParseUintEmpty
import Derived.Shelf.Strings.Search1
import Derived.Shelf.Strings.Search2
import Derived.Shelf.Strings.Search3
import Derived.Shelf.Strings.Cut
import Derived.Shelf.Strings.Count
import Derived.Shelf.Strings.Shaped
import Derived.Shelf.Sort.Plain
import Derived.Shelf.GgClosure.StringsIndexFunc
import Derived.Ground.GgwProg
import Derived.Shelf.GgClosure.StringsIndexFuncTop
import Derived.Shelf.GgClosure.StringsRunes
import Derived.Shelf.Strings.Prefix
import Derived.Shelf.Strings.Split
import Derived.Shelf.Strings.SplitShaped
import Derived.Shelf.Unicode.Decode
import Derived.Shelf.Strings.RuneCount
import Derived.Shelf.Strings.Explode
import Derived.Shelf.Unicode.DecodeSlow
import Derived.Shelf.Unicode.DecodeAny
import Derived.Shelf.Strings.FuncGrows
import Derived.Shelf.Slices.Turned
import Derived.Shelf.Slices.Reverse
import Derived.Ground.Names2Prog
import Derived.Shelf.Slices.Clone
import Derived.Shelf.Slices.SearchI
import Derived.Shelf.Slices.Delete
import Derived.Shelf.Slices.Cells
import Derived.Shelf.Slices.In.SortNone
import Derived.Shelf.Slices.Empties
import Derived.Ground.SlgnProg
import Derived.Shelf.SlicesE.Clone
set_option maxRecDepth 100000
set_option maxHeartbeats 16000000
namespace Go.Proofs
open Go.Shelf
def Tryz.lays169_ren:Go.Shelf.Ren:=⟨fun | 169=>111 | n=>n,fun | 70=>171 | 9=>9 | 0=>0 | 72=>174 | 37=>172 | 127=>230 | 3=>3 | 5=>5 | n=>n,fun | n=>n⟩
theorem Tryz.lays169:Go.Proofs.Lays.n169 Tryz.prog Tryz.lays169_ren:={
 mixed:=by kernel_rfl
 f169:=Tryz.func111.trans (congrArg some (by kernel_rfl))
 t0:=Tryz.underlying0
 a0:=Tryz.isAgg0
 z0:=Tryz.sizeOf0
 v0:=Tryz.zeroValue0
 t3:=Tryz.underlying3
 a3:=Tryz.isAgg3
 z3:=Tryz.sizeOf3
 v3:=Tryz.zeroValue3
 t9:=Tryz.underlying9
 a9:=Tryz.isAgg9
 z9:=Tryz.sizeOf9
 v9:=Tryz.zeroValue9
 t37:=Tryz.underlying172
 a37:=Tryz.isAgg172
 z37:=Tryz.sizeOf172
 v37:=Tryz.zeroValue172
 t70:=Tryz.underlying171
 a70:=Tryz.isAgg171
 z70:=Tryz.sizeOf171
 v70:=Tryz.zeroValue171
 t72:=Tryz.underlying174
 a72:=Tryz.isAgg174
 z72:=Tryz.sizeOf174
 v72:=Tryz.zeroValue174
 t127:=Tryz.underlying230
 a127:=Tryz.isAgg230
 z127:=Tryz.sizeOf230
 v127:=Tryz.zeroValue230 }
theorem Tryz.Builder_Extra_169:Builder.Extra Tryz.prog Tryz.lays169_ren:={
 sizeBuilder:=by kernel_rfl
 liesBuilder:=by kernel_rfl
 t5:=Tryz.underlying5
 a5:=Tryz.isAgg5
 z5:=Tryz.sizeOf5
 v5:=Tryz.zeroValue5
 infoByte:=by kernel_rfl
 cellsByte:=by kernel_rfl
 sizeByte:=by kernel_rfl
 neB5:=by decide }
open Go.RowKit in
theorem Tryz.Builder_String_any (B b:Nat) (l:List UInt8) (w:World) (h:Lib.IsBuilder 174 5 B b (Lib.byteCells l) w) (hBw:B≤w.heap.size) :
 Calls Tryz.prog 111 #[.pointer (some ⟨b,0,none⟩)] w fun e w'=>e=.returned (.string ⟨l.toArray⟩)∧Below B w w':=Any.Builder_String_any Tryz.lays169 Tryz.Builder_Extra_169 B b l w h hBw
def Tryz.lays156_ren:Go.Shelf.Ren:=⟨fun | 156=>102 | 165=>139 | 166=>101 | 169=>111 | 240=>138 | 241=>167 | 276=>166 | 277=>197 | n=>n,fun | 31=>22 | 9=>9 | 3=>3 | 4=>4 | 0=>0 | 20=>20 | 72=>174 | 76=>177 | 70=>171 | 37=>172 | 75=>176 | 127=>230 | 164=>256 | 5=>5 | 80=>129 | n=>n,fun | n=>n⟩
theorem Tryz.lays156:Go.Proofs.Lays.n156 Tryz.prog Tryz.lays156_ren:={
 mixed:=by kernel_rfl
 f156:=Tryz.func102.trans (congrArg some (by kernel_rfl))
 f165:=Tryz.func139.trans (congrArg some (by kernel_rfl))
 f166:=Tryz.func101.trans (congrArg some (by kernel_rfl))
 f169:=Tryz.func111.trans (congrArg some (by kernel_rfl))
 f240:=Tryz.func138.trans (congrArg some (by kernel_rfl))
 f241:=Tryz.func167.trans (congrArg some (by kernel_rfl))
 f276:=Tryz.func166.trans (congrArg some (by kernel_rfl))
 f277:=Tryz.func197.trans (congrArg some (by kernel_rfl))
 t0:=Tryz.underlying0
 a0:=Tryz.isAgg0
 z0:=Tryz.sizeOf0
 v0:=Tryz.zeroValue0
 t3:=Tryz.underlying3
 a3:=Tryz.isAgg3
 z3:=Tryz.sizeOf3
 v3:=Tryz.zeroValue3
 t4:=Tryz.underlying4
 a4:=Tryz.isAgg4
 z4:=Tryz.sizeOf4
 v4:=Tryz.zeroValue4
 t9:=Tryz.underlying9
 a9:=Tryz.isAgg9
 z9:=Tryz.sizeOf9
 v9:=Tryz.zeroValue9
 t20:=Tryz.underlying20
 a20:=Tryz.isAgg20
 z20:=Tryz.sizeOf20
 v20:=Tryz.zeroValue20
 t31:=Tryz.underlying22
 a31:=Tryz.isAgg22
 z31:=Tryz.sizeOf22
 v31:=Tryz.zeroValue22
 t37:=Tryz.underlying172
 a37:=Tryz.isAgg172
 z37:=Tryz.sizeOf172
 v37:=Tryz.zeroValue172
 t70:=Tryz.underlying171
 a70:=Tryz.isAgg171
 z70:=Tryz.sizeOf171
 v70:=Tryz.zeroValue171
 t72:=Tryz.underlying174
 a72:=Tryz.isAgg174
 z72:=Tryz.sizeOf174
 v72:=Tryz.zeroValue174
 t75:=Tryz.underlying176
 a75:=Tryz.isAgg176
 z75:=Tryz.sizeOf176
 v75:=Tryz.zeroValue176
 t76:=Tryz.underlying177
 a76:=Tryz.isAgg177
 z76:=Tryz.sizeOf177
 v76:=Tryz.zeroValue177
 t127:=Tryz.underlying230
 a127:=Tryz.isAgg230
 z127:=Tryz.sizeOf230
 v127:=Tryz.zeroValue230
 t164:=Tryz.underlying256
 a164:=Tryz.isAgg256
 z164:=Tryz.sizeOf256
 v164:=Tryz.zeroValue256 }
theorem Tryz.Builder_Extra_156:Builder.Extra Tryz.prog Tryz.lays156_ren:={
 sizeBuilder:=by kernel_rfl
 liesBuilder:=by kernel_rfl
 t5:=Tryz.underlying5
 a5:=Tryz.isAgg5
 z5:=Tryz.sizeOf5
 v5:=Tryz.zeroValue5
 infoByte:=by kernel_rfl
 cellsByte:=by kernel_rfl
 sizeByte:=by kernel_rfl
 neB5:=by decide }
open Go.RowKit in
theorem Tryz.strings_Join_none (a:Option Addr) (c:Nat) (sep:ByteArray) (w:World) :
 Calls Tryz.prog 102 #[.slice a 0 c,.string sep] w fun e w'=>e=.returned (.string ⟨#[]⟩)∧w'=w:=Any.strings_Join_none Tryz.lays156 Tryz.Builder_Extra_156 a c sep w
open Go.RowKit in
theorem Tryz.strings_Join (bk o c:Nat) (xs:List ByteArray) (sep:ByteArray) (w:World) (hcells:∀ (j:Nat) x,xs[j]?=some x→w.cell? ⟨bk,o+j,none⟩=some (.string x)) (hbk:bk<w.heap.size) (hN:xs.length≤140737488355328) (hcap:xs.length≤c) (hlen:(Lib.join (xs.map (·.data.toList)) sep.data.toList).length≤140737488355328) :
 Calls Tryz.prog 102 #[.slice (some ⟨bk,o,none⟩) xs.length c,.string sep] w fun e w'=>e=.returned (.string ⟨(Lib.join (xs.map (·.data.toList)) sep.data.toList).toArray⟩)∧Below w.heap.size w w':=Any.strings_Join Tryz.lays156 Tryz.Builder_Extra_156 bk o c xs sep w hcells hbk hN hcap hlen
def Tryz.laysM171_ren:Go.Shelf.Ren:=⟨fun | 171=>103 | 243=>140 | 246=>168 | 283=>198 | 284=>199 | 285=>200 | 286=>201 | 129=>247 | 317=>246 | 318=>248 | 319=>249 | 320=>250 | 337=>303 | 338=>304 | n=>n,fun | 3=>3 | 9=>9 | 2=>2 | 4=>4 | 171=>272 | 0=>0 | 53=>273 | 37=>172 | 5=>5 | 173=>276 | 212=>359 | 51=>360 | 20=>20 | 213=>361 | 46=>362 | 232=>455 | 233=>456 | n=>n,fun | 17=>1 | 18=>7 | 19=>8 | n=>n⟩
theorem Tryz.laysM171:Go.Proofs.LaysM.n171 Tryz.prog Tryz.laysM171_ren:={
 mixed:=by kernel_rfl
 f129:=Tryz.func247.trans (congrArg some (by kernel_rfl))
 f171:=Tryz.func103.trans (congrArg some (by kernel_rfl))
 f243:=Tryz.func140.trans (congrArg some (by kernel_rfl))
 f246:=Tryz.func168.trans (congrArg some (by kernel_rfl))
 f283:=Tryz.func198.trans (congrArg some (by kernel_rfl))
 f284:=Tryz.func199.trans (congrArg some (by kernel_rfl))
 f285:=Tryz.func200.trans (congrArg some (by kernel_rfl))
 f286:=Tryz.func201.trans (congrArg some (by kernel_rfl))
 f317:=Tryz.func246.trans (congrArg some (by kernel_rfl))
 f318:=Tryz.func248.trans (congrArg some (by kernel_rfl))
 f319:=Tryz.func249.trans (congrArg some (by kernel_rfl))
 f320:=Tryz.func250.trans (congrArg some (by kernel_rfl))
 f337:=Tryz.func303.trans (congrArg some (by kernel_rfl))
 f338:=Tryz.func304.trans (congrArg some (by kernel_rfl))
 t0:=Tryz.underlying0
 a0:=Tryz.isAgg0
 z0:=Tryz.sizeOf0
 v0:=Tryz.zeroValue0
 t2:=Tryz.underlying2
 a2:=Tryz.isAgg2
 z2:=Tryz.sizeOf2
 v2:=Tryz.zeroValue2
 t3:=Tryz.underlying3
 a3:=Tryz.isAgg3
 z3:=Tryz.sizeOf3
 v3:=Tryz.zeroValue3
 t4:=Tryz.underlying4
 a4:=Tryz.isAgg4
 z4:=Tryz.sizeOf4
 v4:=Tryz.zeroValue4
 t5:=Tryz.underlying5
 a5:=Tryz.isAgg5
 z5:=Tryz.sizeOf5
 v5:=Tryz.zeroValue5
 t9:=Tryz.underlying9
 a9:=Tryz.isAgg9
 z9:=Tryz.sizeOf9
 v9:=Tryz.zeroValue9
 t20:=Tryz.underlying20
 a20:=Tryz.isAgg20
 z20:=Tryz.sizeOf20
 v20:=Tryz.zeroValue20
 t37:=Tryz.underlying172
 a37:=Tryz.isAgg172
 z37:=Tryz.sizeOf172
 v37:=Tryz.zeroValue172
 t46:=Tryz.underlying362
 a46:=Tryz.isAgg362
 z46:=Tryz.sizeOf362
 v46:=Tryz.zeroValue362
 t51:=Tryz.underlying360
 a51:=Tryz.isAgg360
 z51:=Tryz.sizeOf360
 v51:=Tryz.zeroValue360
 t53:=Tryz.underlying273
 a53:=Tryz.isAgg273
 z53:=Tryz.sizeOf273
 v53:=Tryz.zeroValue273
 t171:=Tryz.underlying272
 a171:=Tryz.isAgg272
 z171:=Tryz.sizeOf272
 v171:=Tryz.zeroValue272
 t173:=Tryz.underlying276
 a173:=Tryz.isAgg276
 z173:=Tryz.sizeOf276
 v173:=Tryz.zeroValue276
 t212:=Tryz.underlying359
 a212:=Tryz.isAgg359
 z212:=Tryz.sizeOf359
 v212:=Tryz.zeroValue359
 t213:=Tryz.underlying361
 a213:=Tryz.isAgg361
 z213:=Tryz.sizeOf361
 t232:=Tryz.underlying455
 a232:=Tryz.isAgg455
 z232:=Tryz.sizeOf455
 v232:=Tryz.zeroValue455
 t233:=Tryz.underlying456
 a233:=Tryz.isAgg456
 z233:=Tryz.sizeOf456
 v233:=Tryz.zeroValue456
 g17:=by kernel_rfl
 g18:=by kernel_rfl
 g19:=by kernel_rfl
 i0:=by kernel_rfl
 i2:=by kernel_rfl
 i3:=by kernel_rfl
 i4:=by kernel_rfl
 i5:=by kernel_rfl
 i9:=by kernel_rfl
 i20:=by kernel_rfl
 i37:=by kernel_rfl
 i46:=by kernel_rfl
 i51:=by kernel_rfl
 i53:=by kernel_rfl
 i171:=by kernel_rfl
 i173:=by kernel_rfl
 i212:=by kernel_rfl
 i232:=by kernel_rfl
 i233:=by kernel_rfl
 m17:=by kernel_rfl
 m18:=by kernel_rfl
 m19:=by kernel_rfl }
open Go.RowKit Go.Sort Go.Lib in
theorem Tryz.strconv_Itoa (n:Int) (h0:-9223372036854775808≤n) (h1:n≤9223372036854775807) (w:World) (htab:Lib.TabIs Tryz.prog w "internal/strconv.uint64pow10" .u64 Lib.pow10Tab) :
 Calls Tryz.prog 103 #[.int .i64 n] w fun e w'=>e=.returned (.string ⟨(Lib.itoa n).toArray⟩)∧∃ k os,w'=grow (w.drewN k) os:=Any.strconv_Itoa Tryz.laysM171 n h0 h1 w htab
def Tryz.laysC172_ren:Go.Shelf.Ren:=⟨fun | 172=>195 | 244=>241 | 245=>242 | 247=>294 | 279=>295 | 280=>296 | 281=>297 | 282=>298 | 287=>347 | 316=>348 | 171=>103 | 205=>349 | 321=>390 | 322=>391 | 243=>140 | 246=>168 | 283=>198 | 284=>199 | 285=>200 | 286=>201 | 129=>247 | 317=>246 | 318=>248 | 319=>249 | 320=>250 | 337=>303 | 338=>304 | n=>n,fun | 9=>9 | 3=>3 | 75=>176 | 76=>177 | 4=>4 | 5=>5 | 167=>411 | 37=>172 | 0=>0 | 85=>412 | 2=>2 | 168=>414 | 53=>273 | 175=>448 | 46=>362 | 210=>451 | 127=>230 | 145=>492 | 143=>490 | 21=>21 | 171=>272 | 173=>276 | 212=>359 | 51=>360 | 20=>20 | 213=>361 | 232=>455 | 233=>456 | 80=>129 | n=>n,fun | 15=>5 | 16=>6 | 17=>1 | 18=>7 | 19=>8 | n=>n⟩
theorem Tryz.laysC172:Go.Proofs.LaysC.n172 Tryz.prog Tryz.laysC172_ren:={
 mixed:=by kernel_rfl
 f129:=Tryz.func247.trans (congrArg some (by kernel_rfl))
 f171:=Tryz.func103.trans (congrArg some (by kernel_rfl))
 f172:=Tryz.func195.trans (congrArg some (by kernel_rfl))
 f205:=Tryz.func349.trans (congrArg some (by kernel_rfl))
 f243:=Tryz.func140.trans (congrArg some (by kernel_rfl))
 f244:=Tryz.func241.trans (congrArg some (by kernel_rfl))
 f245:=Tryz.func242.trans (congrArg some (by kernel_rfl))
 f246:=Tryz.func168.trans (congrArg some (by kernel_rfl))
 f247:=Tryz.func294.trans (congrArg some (by kernel_rfl))
 f279:=Tryz.func295.trans (congrArg some (by kernel_rfl))
 f280:=Tryz.func296.trans (congrArg some (by kernel_rfl))
 f281:=Tryz.func297.trans (congrArg some (by kernel_rfl))
 f282:=Tryz.func298.trans (congrArg some (by kernel_rfl))
 f283:=Tryz.func198.trans (congrArg some (by kernel_rfl))
 f284:=Tryz.func199.trans (congrArg some (by kernel_rfl))
 f285:=Tryz.func200.trans (congrArg some (by kernel_rfl))
 f286:=Tryz.func201.trans (congrArg some (by kernel_rfl))
 f287:=Tryz.func347.trans (congrArg some (by kernel_rfl))
 f316:=Tryz.func348.trans (congrArg some (by kernel_rfl))
 f317:=Tryz.func246.trans (congrArg some (by kernel_rfl))
 f318:=Tryz.func248.trans (congrArg some (by kernel_rfl))
 f319:=Tryz.func249.trans (congrArg some (by kernel_rfl))
 f320:=Tryz.func250.trans (congrArg some (by kernel_rfl))
 f321:=Tryz.func390.trans (congrArg some (by kernel_rfl))
 f322:=Tryz.func391.trans (congrArg some (by kernel_rfl))
 f337:=Tryz.func303.trans (congrArg some (by kernel_rfl))
 f338:=Tryz.func304.trans (congrArg some (by kernel_rfl))
 t0:=Tryz.underlying0
 a0:=Tryz.isAgg0
 z0:=Tryz.sizeOf0
 v0:=Tryz.zeroValue0
 t2:=Tryz.underlying2
 a2:=Tryz.isAgg2
 z2:=Tryz.sizeOf2
 v2:=Tryz.zeroValue2
 t3:=Tryz.underlying3
 a3:=Tryz.isAgg3
 z3:=Tryz.sizeOf3
 v3:=Tryz.zeroValue3
 t4:=Tryz.underlying4
 a4:=Tryz.isAgg4
 z4:=Tryz.sizeOf4
 v4:=Tryz.zeroValue4
 t5:=Tryz.underlying5
 a5:=Tryz.isAgg5
 z5:=Tryz.sizeOf5
 v5:=Tryz.zeroValue5
 t9:=Tryz.underlying9
 a9:=Tryz.isAgg9
 z9:=Tryz.sizeOf9
 v9:=Tryz.zeroValue9
 t20:=Tryz.underlying20
 a20:=Tryz.isAgg20
 z20:=Tryz.sizeOf20
 v20:=Tryz.zeroValue20
 t21:=Tryz.underlying21
 a21:=Tryz.isAgg21
 z21:=Tryz.sizeOf21
 v21:=Tryz.zeroValue21
 t37:=Tryz.underlying172
 a37:=Tryz.isAgg172
 z37:=Tryz.sizeOf172
 v37:=Tryz.zeroValue172
 t46:=Tryz.underlying362
 a46:=Tryz.isAgg362
 z46:=Tryz.sizeOf362
 v46:=Tryz.zeroValue362
 t51:=Tryz.underlying360
 a51:=Tryz.isAgg360
 z51:=Tryz.sizeOf360
 v51:=Tryz.zeroValue360
 t53:=Tryz.underlying273
 a53:=Tryz.isAgg273
 z53:=Tryz.sizeOf273
 v53:=Tryz.zeroValue273
 t75:=Tryz.underlying176
 a75:=Tryz.isAgg176
 z75:=Tryz.sizeOf176
 v75:=Tryz.zeroValue176
 t76:=Tryz.underlying177
 a76:=Tryz.isAgg177
 z76:=Tryz.sizeOf177
 v76:=Tryz.zeroValue177
 t85:=Tryz.underlying412
 a85:=Tryz.isAgg412
 z85:=Tryz.sizeOf412
 v85:=Tryz.zeroValue412
 t127:=Tryz.underlying230
 a127:=Tryz.isAgg230
 z127:=Tryz.sizeOf230
 v127:=Tryz.zeroValue230
 t143:=Tryz.underlying490
 a143:=Tryz.isAgg490
 z143:=Tryz.sizeOf490
 v143:=Tryz.zeroValue490
 t145:=Tryz.underlying492
 a145:=Tryz.isAgg492
 z145:=Tryz.sizeOf492
 v145:=Tryz.zeroValue492
 t167:=Tryz.underlying411
 a167:=Tryz.isAgg411
 z167:=Tryz.sizeOf411
 v167:=Tryz.zeroValue411
 t168:=Tryz.underlying414
 a168:=Tryz.isAgg414
 z168:=Tryz.sizeOf414
 v168:=Tryz.zeroValue414
 t171:=Tryz.underlying272
 a171:=Tryz.isAgg272
 z171:=Tryz.sizeOf272
 v171:=Tryz.zeroValue272
 t173:=Tryz.underlying276
 a173:=Tryz.isAgg276
 z173:=Tryz.sizeOf276
 v173:=Tryz.zeroValue276
 t175:=Tryz.underlying448
 a175:=Tryz.isAgg448
 z175:=Tryz.sizeOf448
 v175:=Tryz.zeroValue448
 t210:=Tryz.underlying451
 a210:=Tryz.isAgg451
 z210:=Tryz.sizeOf451
 v210:=Tryz.zeroValue451
 t212:=Tryz.underlying359
 a212:=Tryz.isAgg359
 z212:=Tryz.sizeOf359
 v212:=Tryz.zeroValue359
 t213:=Tryz.underlying361
 a213:=Tryz.isAgg361
 z213:=Tryz.sizeOf361
 t232:=Tryz.underlying455
 a232:=Tryz.isAgg455
 z232:=Tryz.sizeOf455
 v232:=Tryz.zeroValue455
 t233:=Tryz.underlying456
 a233:=Tryz.isAgg456
 z233:=Tryz.sizeOf456
 v233:=Tryz.zeroValue456
 g15:=by kernel_rfl
 g16:=by kernel_rfl
 g17:=by kernel_rfl
 g18:=by kernel_rfl
 g19:=by kernel_rfl
 t80:=Tryz.underlying129
 a80:=Tryz.isAgg129
 z80:=Tryz.sizeOf129
 v80:=Tryz.zeroValue129
 i0:=by kernel_rfl
 i2:=by kernel_rfl
 i3:=by kernel_rfl
 i4:=by kernel_rfl
 i5:=by kernel_rfl
 i9:=by kernel_rfl
 i20:=by kernel_rfl
 i21:=by kernel_rfl
 i37:=by kernel_rfl
 i46:=by kernel_rfl
 i51:=by kernel_rfl
 i53:=by kernel_rfl
 i75:=by kernel_rfl
 i76:=by kernel_rfl
 i80:=by kernel_rfl
 i85:=by kernel_rfl
 i127:=by kernel_rfl
 i143:=by kernel_rfl
 i145:=by kernel_rfl
 i167:=by kernel_rfl
 i168:=by kernel_rfl
 i171:=by kernel_rfl
 i173:=by kernel_rfl
 i175:=by kernel_rfl
 i210:=by kernel_rfl
 i212:=by kernel_rfl
 i232:=by kernel_rfl
 i233:=by kernel_rfl
 m15:=by kernel_rfl
 m16:=by kernel_rfl
 m17:=by kernel_rfl
 m18:=by kernel_rfl
 m19:=by kernel_rfl
 c0:=by kernel_rfl
 c2:=by kernel_rfl
 c3:=by kernel_rfl
 c4:=by kernel_rfl
 c5:=by kernel_rfl
 c9:=by kernel_rfl
 c20:=by kernel_rfl
 c21:=by kernel_rfl
 c37:=by kernel_rfl
 c46:=by kernel_rfl
 c51:=by kernel_rfl
 c53:=by kernel_rfl
 c75:=by kernel_rfl
 c76:=by kernel_rfl
 c80:=by kernel_rfl
 c85:=by kernel_rfl
 c127:=by kernel_rfl
 c143:=by kernel_rfl
 c145:=by kernel_rfl
 c167:=by kernel_rfl
 c168:=by kernel_rfl
 c171:=by kernel_rfl
 c173:=by kernel_rfl
 c175:=by kernel_rfl
 c210:=by kernel_rfl
 c212:=by kernel_rfl
 c213:=by kernel_rfl
 c232:=by kernel_rfl
 c233:=by kernel_rfl }
open Go.RowKit in
theorem Tryz.strconv_Atoi_ok (s:ByteArray) (hmax:s.size≤9223372036854775806) (v:Int) (h:Lib.atoiAll s.data.toList=.ok v) (w:World) :
 Calls Tryz.prog 195 #[.string s] w fun e w'=>e=.returned (.tuple #[.int .i64 v,.nilIface])∧(w'=w∨∃ t,w'=Lib.bytesWorld w 5 t):=Any.strconv_Atoi_ok Tryz.laysC172 s hmax v h w
def Tryz.lays145_ren:Go.Shelf.Ren:=⟨fun | 145=>251 | 220=>305 | 219=>228 | 217=>277 | 225=>278 | 224=>279 | 267=>280 | 266=>334 | 314=>335 | n=>n,fun | 9=>9 | 4=>4 | 59=>364 | 3=>3 | 5=>5 | 46=>362 | 146=>440 | 51=>360 | n=>n,fun | 1=>0 | n=>n⟩
theorem Tryz.lays145:Go.Proofs.Lays.n145 Tryz.prog Tryz.lays145_ren:={
 mixed:=by kernel_rfl
 f145:=Tryz.func251.trans (congrArg some (by kernel_rfl))
 f217:=Tryz.func277.trans (congrArg some (by kernel_rfl))
 f219:=Tryz.func228.trans (congrArg some (by kernel_rfl))
 f220:=Tryz.func305.trans (congrArg some (by kernel_rfl))
 f224:=Tryz.func279.trans (congrArg some (by kernel_rfl))
 f225:=Tryz.func278.trans (congrArg some (by kernel_rfl))
 f266:=Tryz.func334.trans (congrArg some (by kernel_rfl))
 f267:=Tryz.func280.trans (congrArg some (by kernel_rfl))
 f314:=Tryz.func335.trans (congrArg some (by kernel_rfl))
 t3:=Tryz.underlying3
 a3:=Tryz.isAgg3
 z3:=Tryz.sizeOf3
 v3:=Tryz.zeroValue3
 t4:=Tryz.underlying4
 a4:=Tryz.isAgg4
 z4:=Tryz.sizeOf4
 v4:=Tryz.zeroValue4
 t5:=Tryz.underlying5
 a5:=Tryz.isAgg5
 z5:=Tryz.sizeOf5
 v5:=Tryz.zeroValue5
 t9:=Tryz.underlying9
 a9:=Tryz.isAgg9
 z9:=Tryz.sizeOf9
 v9:=Tryz.zeroValue9
 t46:=Tryz.underlying362
 a46:=Tryz.isAgg362
 z46:=Tryz.sizeOf362
 v46:=Tryz.zeroValue362
 t51:=Tryz.underlying360
 a51:=Tryz.isAgg360
 z51:=Tryz.sizeOf360
 v51:=Tryz.zeroValue360
 t59:=Tryz.underlying364
 a59:=Tryz.isAgg364
 z59:=Tryz.sizeOf364
 v59:=Tryz.zeroValue364
 t146:=Tryz.underlying440
 a146:=Tryz.isAgg440
 z146:=Tryz.sizeOf440
 v146:=Tryz.zeroValue440
 g1:=by kernel_rfl }
open Go.RowKit Go.Lib in
theorem Tryz.strings_Cut (s sep:ByteArray) (m:Int) (w:World) (hs:s.size<4294967281) (hm:w.cell? ⟨0,0,none⟩=some (.int .i64 m)) :
 Calls Tryz.prog 251 #[.string s,.string sep] w fun e w'=>e=.returned (.tuple #[.string ⟨(Lib.cut s.data.toList sep.data.toList).1.toArray⟩,.string ⟨(Lib.cut s.data.toList sep.data.toList).2.1.toArray⟩,.bool (Lib.cut s.data.toList sep.data.toList).2.2])∧∃ n,w'=w.drewN n:=Any.strings_Cut Tryz.lays145 s sep m w hs hm
def Tryz.laysM145_ren:Go.Shelf.Ren:=⟨fun | 145=>251 | 220=>305 | 219=>228 | 217=>277 | 225=>278 | 224=>279 | 267=>280 | 266=>334 | 314=>335 | n=>n,fun | 9=>9 | 4=>4 | 59=>364 | 3=>3 | 5=>5 | 46=>362 | 146=>440 | 51=>360 | n=>n,fun | 1=>0 | n=>n⟩
theorem Tryz.laysM145:Go.Proofs.LaysM.n145 Tryz.prog Tryz.laysM145_ren:={
 mixed:=by kernel_rfl
 f145:=Tryz.func251.trans (congrArg some (by kernel_rfl))
 f217:=Tryz.func277.trans (congrArg some (by kernel_rfl))
 f219:=Tryz.func228.trans (congrArg some (by kernel_rfl))
 f220:=Tryz.func305.trans (congrArg some (by kernel_rfl))
 f224:=Tryz.func279.trans (congrArg some (by kernel_rfl))
 f225:=Tryz.func278.trans (congrArg some (by kernel_rfl))
 f266:=Tryz.func334.trans (congrArg some (by kernel_rfl))
 f267:=Tryz.func280.trans (congrArg some (by kernel_rfl))
 f314:=Tryz.func335.trans (congrArg some (by kernel_rfl))
 t3:=Tryz.underlying3
 a3:=Tryz.isAgg3
 z3:=Tryz.sizeOf3
 v3:=Tryz.zeroValue3
 t4:=Tryz.underlying4
 a4:=Tryz.isAgg4
 z4:=Tryz.sizeOf4
 v4:=Tryz.zeroValue4
 t5:=Tryz.underlying5
 a5:=Tryz.isAgg5
 z5:=Tryz.sizeOf5
 v5:=Tryz.zeroValue5
 t9:=Tryz.underlying9
 a9:=Tryz.isAgg9
 z9:=Tryz.sizeOf9
 v9:=Tryz.zeroValue9
 t46:=Tryz.underlying362
 a46:=Tryz.isAgg362
 z46:=Tryz.sizeOf362
 v46:=Tryz.zeroValue362
 t51:=Tryz.underlying360
 a51:=Tryz.isAgg360
 z51:=Tryz.sizeOf360
 v51:=Tryz.zeroValue360
 t59:=Tryz.underlying364
 a59:=Tryz.isAgg364
 z59:=Tryz.sizeOf364
 v59:=Tryz.zeroValue364
 t146:=Tryz.underlying440
 a146:=Tryz.isAgg440
 z146:=Tryz.sizeOf440
 v146:=Tryz.zeroValue440
 g1:=by kernel_rfl
 i3:=by kernel_rfl
 i4:=by kernel_rfl
 i5:=by kernel_rfl
 i9:=by kernel_rfl
 i46:=by kernel_rfl
 i51:=by kernel_rfl
 i59:=by kernel_rfl
 i146:=by kernel_rfl
 m1:=by kernel_rfl
 s1_3:=fun w h=>Go.Proofs.cell_of_shapedOpen_int (zero:=#[.int .i64 0]) (t:=3) h (of_decide_eq_true (by kernel_rfl)) (by kernel_rfl) rfl (by kernel_rfl) (by kernel_rfl) Tryz.underlying3 }
def Tryz.laysGw17_ren:Go.Shelf.Ren:=⟨fun | 17=>146 | 15=>171 | 20=>202 | n=>n,fun | 9=>9 | 23=>234 | 4=>4 | 3=>3 | 0=>0 | 21=>21 | n=>n,fun | n=>n⟩
theorem Tryz.laysGw17:Go.Proofs.LaysGw.n17 Tryz.prog Tryz.laysGw17_ren:={
 mixed:=by kernel_rfl
 f15:=Tryz.func171.trans (congrArg some (by kernel_rfl))
 f17:=Tryz.func146.trans (congrArg some (by kernel_rfl))
 f20:=Tryz.func202.trans (congrArg some (by kernel_rfl))
 t0:=Tryz.underlying0
 a0:=Tryz.isAgg0
 z0:=Tryz.sizeOf0
 v0:=Tryz.zeroValue0
 i0:=by kernel_rfl
 t3:=Tryz.underlying3
 a3:=Tryz.isAgg3
 z3:=Tryz.sizeOf3
 v3:=Tryz.zeroValue3
 i3:=by kernel_rfl
 t4:=Tryz.underlying4
 a4:=Tryz.isAgg4
 z4:=Tryz.sizeOf4
 v4:=Tryz.zeroValue4
 i4:=by kernel_rfl
 t9:=Tryz.underlying9
 a9:=Tryz.isAgg9
 z9:=Tryz.sizeOf9
 v9:=Tryz.zeroValue9
 i9:=by kernel_rfl
 t21:=Tryz.underlying21
 a21:=Tryz.isAgg21
 z21:=Tryz.sizeOf21
 v21:=Tryz.zeroValue21
 i21:=by kernel_rfl
 t23:=Tryz.underlying234
 a23:=Tryz.isAgg234
 z23:=Tryz.sizeOf234
 v23:=Tryz.zeroValue234
 i23:=by kernel_rfl }
open Go.RowKit Go.Lib in
theorem Tryz.strings_ContainsFunc_runes (g:Nat) (lb:Array Value) (eg:∀ args w,(callFunc g args).run Tryz.prog w=.ok (.enter g args) w) (p:Nat→Bool) (s:ByteArray) (w:World) (hp:PredAtRunes Tryz.prog g lb p w) :
 Calls Tryz.prog 146 #[.string s,.func (.func g) #[] lb] w fun e w'=>e=.returned (.bool (decide (0≤Lib.idxFunc p true s)))∧Below w.heap.size w w':=Any.strings_ContainsFunc_runes Tryz.laysGw17 g lb eg p s w hp
def Tryz.lays146_ren:Go.Shelf.Ren:=⟨fun | 146=>115 | 221=>150 | 268=>186 | 138=>187 | 143=>188 | 195=>225 | 197=>226 | 218=>227 | 219=>228 | 260=>276 | 217=>277 | 225=>278 | 224=>279 | 267=>280 | 266=>334 | 314=>335 | n=>n,fun | 9=>9 | 31=>22 | 3=>3 | 4=>4 | 0=>0 | 105=>316 | 21=>21 | 5=>5 | 46=>362 | 119=>436 | 139=>439 | 138=>438 | 146=>440 | 51=>360 | n=>n,fun | 1=>0 | 3=>3 | 4=>4 | n=>n⟩
theorem Tryz.lays146:Go.Proofs.Lays.n146 Tryz.prog Tryz.lays146_ren:={
 mixed:=by kernel_rfl
 f138:=Tryz.func187.trans (congrArg some (by kernel_rfl))
 f143:=Tryz.func188.trans (congrArg some (by kernel_rfl))
 f146:=Tryz.func115.trans (congrArg some (by kernel_rfl))
 f195:=Tryz.func225.trans (congrArg some (by kernel_rfl))
 f197:=Tryz.func226.trans (congrArg some (by kernel_rfl))
 f217:=Tryz.func277.trans (congrArg some (by kernel_rfl))
 f218:=Tryz.func227.trans (congrArg some (by kernel_rfl))
 f219:=Tryz.func228.trans (congrArg some (by kernel_rfl))
 f221:=Tryz.func150.trans (congrArg some (by kernel_rfl))
 f224:=Tryz.func279.trans (congrArg some (by kernel_rfl))
 f225:=Tryz.func278.trans (congrArg some (by kernel_rfl))
 f260:=Tryz.func276.trans (congrArg some (by kernel_rfl))
 f266:=Tryz.func334.trans (congrArg some (by kernel_rfl))
 f267:=Tryz.func280.trans (congrArg some (by kernel_rfl))
 f268:=Tryz.func186.trans (congrArg some (by kernel_rfl))
 f314:=Tryz.func335.trans (congrArg some (by kernel_rfl))
 t0:=Tryz.underlying0
 a0:=Tryz.isAgg0
 z0:=Tryz.sizeOf0
 v0:=Tryz.zeroValue0
 t3:=Tryz.underlying3
 a3:=Tryz.isAgg3
 z3:=Tryz.sizeOf3
 v3:=Tryz.zeroValue3
 t4:=Tryz.underlying4
 a4:=Tryz.isAgg4
 z4:=Tryz.sizeOf4
 v4:=Tryz.zeroValue4
 t5:=Tryz.underlying5
 a5:=Tryz.isAgg5
 z5:=Tryz.sizeOf5
 v5:=Tryz.zeroValue5
 t9:=Tryz.underlying9
 a9:=Tryz.isAgg9
 z9:=Tryz.sizeOf9
 v9:=Tryz.zeroValue9
 t21:=Tryz.underlying21
 a21:=Tryz.isAgg21
 z21:=Tryz.sizeOf21
 v21:=Tryz.zeroValue21
 t31:=Tryz.underlying22
 a31:=Tryz.isAgg22
 z31:=Tryz.sizeOf22
 v31:=Tryz.zeroValue22
 t46:=Tryz.underlying362
 a46:=Tryz.isAgg362
 z46:=Tryz.sizeOf362
 v46:=Tryz.zeroValue362
 t51:=Tryz.underlying360
 a51:=Tryz.isAgg360
 z51:=Tryz.sizeOf360
 v51:=Tryz.zeroValue360
 t105:=Tryz.underlying316
 a105:=Tryz.isAgg316
 z105:=Tryz.sizeOf316
 v105:=Tryz.zeroValue316
 t119:=Tryz.underlying436
 a119:=Tryz.isAgg436
 z119:=Tryz.sizeOf436
 t138:=Tryz.underlying438
 a138:=Tryz.isAgg438
 z138:=Tryz.sizeOf438
 v138:=Tryz.zeroValue438
 t139:=Tryz.underlying439
 a139:=Tryz.isAgg439
 z139:=Tryz.sizeOf439
 v139:=Tryz.zeroValue439
 t146:=Tryz.underlying440
 a146:=Tryz.isAgg440
 z146:=Tryz.sizeOf440
 v146:=Tryz.zeroValue440
 g1:=by kernel_rfl
 g3:=by kernel_rfl
 g4:=by kernel_rfl }
open Go.RowKit Go.Lib in
theorem Tryz.strings_Split (s sep:ByteArray) (m:Int) (w:World) (hs:s.size<4294967281) (hm:w.cell? ⟨0,0,none⟩=some (.int .i64 m)) (h1:1≤sep.size) :
 Calls Tryz.prog 115 #[.string s,.string sep] w fun e w' =>
  e=.returned (.slice (some ⟨w.heap.size,0,none⟩) (Lib.countB s sep+1) (Lib.countB s sep+1))∧w'=w.alloc (.cells ((Lib.splitB sep 0 (Lib.countB s sep) s).map Value.string).toArray 9):=Any.strings_Split Tryz.lays146 (by kernel_rfl) s sep m w hs hm h1
def Tryz.lays109_ren:Go.Shelf.Ren:=⟨fun | 109=>127 | n=>n,fun | 31=>22 | 9=>9 | 3=>3 | 0=>0 | 4=>4 | n=>n,fun | n=>n⟩
theorem Tryz.lays109:Go.Proofs.Lays.n109 Tryz.prog Tryz.lays109_ren:={
 mixed:=by kernel_rfl
 f109:=Tryz.func127.trans (congrArg some (by kernel_rfl))
 t0:=Tryz.underlying0
 a0:=Tryz.isAgg0
 z0:=Tryz.sizeOf0
 v0:=Tryz.zeroValue0
 t3:=Tryz.underlying3
 a3:=Tryz.isAgg3
 z3:=Tryz.sizeOf3
 v3:=Tryz.zeroValue3
 t4:=Tryz.underlying4
 a4:=Tryz.isAgg4
 z4:=Tryz.sizeOf4
 v4:=Tryz.zeroValue4
 t9:=Tryz.underlying9
 a9:=Tryz.isAgg9
 z9:=Tryz.sizeOf9
 v9:=Tryz.zeroValue9
 t31:=Tryz.underlying22
 a31:=Tryz.isAgg22
 z31:=Tryz.sizeOf22
 v31:=Tryz.zeroValue22 }
open Go.Lib in
theorem Tryz.slices_Index_string (b off n c:Nat) (zs:List ByteArray) (x:ByteArray) (w:World) (hz:n≤zs.length) (hbig:n≤9223372036854775807) (hc:∀ j,j<zs.length→w.cell? ⟨b,off+j,none⟩=some (.string (zs.getD j ByteArray.empty))) :
 Calls Tryz.prog 127 #[.slice (some ⟨b,off,none⟩) n c,.string x] w fun e w'=>e=.returned (.int .i64 (Lib.idxOfS (zs.take n) x))∧w'=w:=Any.slices_Index_string Tryz.lays109 b off n c zs x w hz hbig hc
def Tryz.laysNm215_ren:Go.Shelf.Ren:=⟨fun | 15=>285 | n=>n,fun | 22=>32 | 3=>3 | 4=>4 | n=>n,fun | n=>n⟩
theorem Tryz.laysNm215:Go.Proofs.Lays2.n15 Tryz.prog Tryz.laysNm215_ren:={
 mixed:=by kernel_rfl
 f15:=Tryz.func285.trans (congrArg some (by kernel_rfl))
 t3:=Tryz.underlying3
 a3:=Tryz.isAgg3
 z3:=Tryz.sizeOf3
 v3:=Tryz.zeroValue3
 t4:=Tryz.underlying4
 a4:=Tryz.isAgg4
 z4:=Tryz.sizeOf4
 v4:=Tryz.zeroValue4
 t22:=Tryz.underlying32
 a22:=Tryz.isAgg32
 z22:=Tryz.sizeOf32
 v22:=Tryz.zeroValue32
 i3:=by kernel_rfl }
open Go.RowKit Go.Lib in
theorem Tryz.slices_Clone_int (b off n c:Nat) (zs:List Int) (w:World) (hz:n≤zs.length) (hbig:n * 8≤140737488355328) (hc:∀ j,j<zs.length→w.cell? ⟨b,off+j,none⟩=some (.int .i64 (zs.getD j 0))) :
 Calls Tryz.prog 285 #[.slice (some ⟨b,off,none⟩) n c] w fun e w'=>∃ v',e=.returned v'∧w'.ownsRow w.heap.size 3 1 v' n ((zs.take n).map (Value.int .i64))∧v'≠.slice none 0 0∧Below w.heap.size w w':=Any.slices_Clone_int Tryz.laysNm215 b off n c zs w hz hbig hc
open Go.RowKit Go.Lib in
theorem Tryz.slices_Clone_int_nil (n c:Nat) (w:World) :
 Calls Tryz.prog 285 #[.slice none n c] w fun e w'=>e=.returned (.slice none 0 0)∧w'=w:=Any.slices_Clone_int_nil Tryz.laysNm215 n c w
open Go.RowKit Go.Lib in
theorem Tryz.slices_Clone_int_zero (a:Addr) (c:Nat) (w:World) :
 Calls Tryz.prog 285 #[.slice (some a) 0 c] w fun e w'=>∃ v',e=.returned v'∧w'.ownsRow w.heap.size 3 1 v' 0 []∧v'≠.slice none 0 0∧Below w.heap.size w w':=Any.slices_Clone_int_zero Tryz.laysNm215 a c w
def Tryz.laysNm225_ren:Go.Shelf.Ren:=⟨fun | 25=>221 | 31=>272 | 32=>273 | 37=>332 | n=>n,fun | 22=>32 | 3=>3 | 4=>4 | 40=>362 | 0=>0 | n=>n,fun | n=>n⟩
theorem Tryz.laysNm225:Go.Proofs.Lays2.n25 Tryz.prog Tryz.laysNm225_ren:={
 mixed:=by kernel_rfl
 f25:=Tryz.func221.trans (congrArg some (by kernel_rfl))
 f31:=Tryz.func272.trans (congrArg some (by kernel_rfl))
 f32:=Tryz.func273.trans (congrArg some (by kernel_rfl))
 f37:=Tryz.func332.trans (congrArg some (by kernel_rfl))
 t0:=Tryz.underlying0
 a0:=Tryz.isAgg0
 z0:=Tryz.sizeOf0
 v0:=Tryz.zeroValue0
 t3:=Tryz.underlying3
 a3:=Tryz.isAgg3
 z3:=Tryz.sizeOf3
 v3:=Tryz.zeroValue3
 t4:=Tryz.underlying4
 a4:=Tryz.isAgg4
 z4:=Tryz.sizeOf4
 v4:=Tryz.zeroValue4
 t22:=Tryz.underlying32
 a22:=Tryz.isAgg32
 z22:=Tryz.sizeOf32
 v22:=Tryz.zeroValue32
 t40:=Tryz.underlying362
 a40:=Tryz.isAgg362
 z40:=Tryz.sizeOf362
 v40:=Tryz.zeroValue362 }
open Go.RowKit Go.Lib in
theorem Tryz.slices_BinarySearch_int_empty (a:Option Addr) (c:Nat) (x:Int) (w:World) :
 Calls Tryz.prog 221 #[.slice a 0 c,.int .i64 x] w fun e w'=>e=.returned (.tuple #[.int .i64 0,.bool false])∧w'=w:=Any.slices_BinarySearch_int_empty Tryz.laysNm225 a c x w
end Go.Proofs
