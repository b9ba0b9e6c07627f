/- DERIVED: THE SHELF's CONTRACTS AT THIS DUMP, IN PLAIN WORDS (tools/lay-plain.mjs out of 'TryzShelf.lean', which tools/la And what follows. -/
import Derived.Shelf.SlIter.Sorted
import Derived.Ground.GgzProg
import Derived.Shelf.SlicesE.DeleteFunc
import Derived.Ground.SlgfProg
import Derived.Shelf.Strings.Builder1
import Derived.Shelf.Strings.Builder2
import Derived.Shelf.Strings.Trim
import Derived.Shelf.Small.Utf8
import Derived.Shelf.Small.Bits
import Derived.Shelf.Small.Strs
import Derived.Shelf.Small.Wraps
import Derived.Shelf.Strings.BuilderF
import Derived.Shelf.Strconv.Atoi
import Derived.Shelf.Strconv.Itoa0
import Derived.Shelf.Strconv.Itoa1
import Derived.Shelf.LaysM
import Derived.Shelf.Strconv.Itoa2
import Derived.Shelf.Strconv.Itoa3
import Derived.Shelf.Strconv.AtoiErrFast
import Derived.Shelf.Strconv.ParseIntEmpty
import Derived.Shelf.Strconv.AtoiFail
import Derived.Shelf.Strconv.Clone
import Derived.Shelf.Strconv.SyntaxError
import Derived.Shelf.LaysC
import Derived.Shelf.Strconv.ToError
import Derived.Shelf.Strconv.Lower
import Derived.Shelf.Strconv.ParseUint10
import Derived.Shelf.Strconv.ParseUint10Empty
import Derived.Shelf.Strconv.ParseUint10Any
import Derived.Shelf.Strconv.ParseInt10
import Derived.Shelf.Strconv.AtoiLong
import Derived.Shelf.Strconv.AtoiInnerAll
import Derived.Shelf.Strconv.RangeError
import Derived.Shelf.Strconv.ToErrorRange
import Derived.Shelf.Strconv.AtoiAll
import Derived.Shelf.Strconv.ErrVarAll
import Derived.Shelf.Strings.Search1
import Derived.Shelf.Sort.Plain
import Derived.Shelf.GgClosure.StringsIndexFunc
import Derived.Ground.GgwProg
import Derived.Shelf.GgClosure.StringsIndexFuncTop
import Derived.Shelf.GgClosure.StringsRunes
import Derived.Shelf.Strings.Prefix
import Derived.Shelf.Strings.Runes
import Derived.Shelf.Strings.AsciiSet
import Derived.Shelf.Bits.Mul64
import Derived.Shelf.Strings.Repeat
import Derived.Shelf.Unicode.DecodeSlow
import Derived.Shelf.Unicode.DecodeAny
import Derived.Shelf.Unicode.DecodeLast
import Derived.Shelf.Strings.FuncGrows
import Derived.Shelf.Slices.Turned
import Derived.Shelf.Slices.Equal
import Derived.Ground.Names2Prog
import Derived.Shelf.Slices.Clone
import Derived.Shelf.Slices.CompactS
import Derived.Shelf.Slices.SearchI
import Derived.Shelf.Slices.Cells
import Derived.Shelf.Slices.In.SortNone
import Derived.Shelf.Slices.Empties
import Derived.Shelf.Slices.Empties2
import Derived.Ground.SlgnProg
import Derived.Shelf.SlicesE.Equal
import Derived.Shelf.SlicesE.Compact
import Derived.Shelf.SlicesE.IndexFunc
import Derived.Test.YtnoehodmmkioaaaGreatDoorProg
import Derived.Test.YtnoehodmmkioaaaGreatDoorF00
import Derived.Lib.ItoaMem
import Derived.Shelf.Strings.SlTrimAscii
import Derived.Lib.LaidTab
import Derived.Lib.AppendIntMem
import Derived.Laws.OwnMore
import Derived.Laws.AppendOwn
import Derived.MapKept
import Derived.Deep.DeepCutAuto
import Derived.Maps.RangeWalk
import Derived.StillTail
import Derived.Tactics
import Derived.KernelRfl
import Derived.Maps.RangeRun
set_option maxHeartbeats 25600000
set_option maxRecDepth 100000
set_option linter.unusedVariables false
set_option linter.unusedSimpArgs false
namespace Go.Proofs
open Go.Shelf
def Tryz.lays169_ren:Go.Shelf.Ren:=⟨fun | 169=>159 | n=>n,fun | 70=>257 | 9=>9 | 0=>0 | 72=>259 | 37=>218 | 127=>303 | 3=>3 | 5=>5 | n=>n,fun | n=>n⟩
theorem Tryz.lays169:Go.Proofs.Lays.n169 Tryz.prog Tryz.lays169_ren:={
 mixed:=by kernel_rfl
 f169:=Tryz.func159.trans (congrArg some (by kernel_rfl))
 t0:=Tryz.underlying0
 a0:=Tryz.isAgg0
 z0:=Tryz.sizeOf0
 v0:=Tryz.zeroValue0
 t3:=Tryz.underlying3
 a3:=Tryz.isAgg3
 z3:=Tryz.sizeOf3
 v3:=Tryz.zeroValue3
 t9:=Tryz.underlying9
 a9:=Tryz.isAgg9
 z9:=Tryz.sizeOf9
 v9:=Tryz.zeroValue9
 t37:=Tryz.underlying218
 a37:=Tryz.isAgg218
 z37:=Tryz.sizeOf218
 v37:=Tryz.zeroValue218
 t70:=Tryz.underlying257
 a70:=Tryz.isAgg257
 z70:=Tryz.sizeOf257
 v70:=Tryz.zeroValue257
 t72:=Tryz.underlying259
 a72:=Tryz.isAgg259
 z72:=Tryz.sizeOf259
 v72:=Tryz.zeroValue259
 t127:=Tryz.underlying303
 a127:=Tryz.isAgg303
 z127:=Tryz.sizeOf303
 v127:=Tryz.zeroValue303 }
theorem Tryz.Builder_Extra_169:Builder.Extra Tryz.prog Tryz.lays169_ren:={
 sizeBuilder:=by kernel_rfl
 liesBuilder:=by kernel_rfl
 t5:=Tryz.underlying5
 a5:=Tryz.isAgg5
 z5:=Tryz.sizeOf5
 v5:=Tryz.zeroValue5
 infoByte:=by kernel_rfl
 cellsByte:=by kernel_rfl
 sizeByte:=by kernel_rfl
 neB5:=by decide }
open Go.RowKit in
theorem Tryz.Builder_String_any (B b:Nat) (l:List UInt8) (w:World) (h:Lib.IsBuilder 259 5 B b (Lib.byteCells l) w) (hBw:B≤w.heap.size) :
 Calls Tryz.prog 159 #[.pointer (some ⟨b,0,none⟩)] w fun e w'=>e=.returned (.string ⟨l.toArray⟩)∧Below B w w':=Any.Builder_String_any Tryz.lays169 Tryz.Builder_Extra_169 B b l w h hBw
def Tryz.lays160_ren:Go.Shelf.Ren:=⟨fun | 160=>244 | 232=>257 | 231=>256 | 227=>258 | 234=>260 | 233=>259 | 236=>262 | 235=>261 | 228=>274 | 271=>277 | 151=>276 | 197=>275 | 120=>290 | 152=>289 | 260=>288 | 137=>296 | 119=>297 | 224=>298 | 225=>299 | 217=>302 | 266=>303 | n=>n,fun | 9=>9 | 4=>4 | 3=>3 | 5=>5 | 117=>353 | 116=>352 | 0=>0 | 124=>356 | 21=>21 | 105=>366 | 46=>184 | 119=>384 | 139=>387 | 138=>386 | n=>n,fun | 3=>4 | 4=>5 | n=>n⟩
theorem Tryz.lays160:Go.Proofs.Lays.n160 Tryz.prog Tryz.lays160_ren:={
 mixed:=by kernel_rfl
 f119:=Tryz.func297.trans (congrArg some (by kernel_rfl))
 f120:=Tryz.func290.trans (congrArg some (by kernel_rfl))
 f137:=Tryz.func296.trans (congrArg some (by kernel_rfl))
 f151:=Tryz.func276.trans (congrArg some (by kernel_rfl))
 f152:=Tryz.func289.trans (congrArg some (by kernel_rfl))
 f160:=Tryz.func244.trans (congrArg some (by kernel_rfl))
 f197:=Tryz.func275.trans (congrArg some (by kernel_rfl))
 f217:=Tryz.func302.trans (congrArg some (by kernel_rfl))
 f224:=Tryz.func298.trans (congrArg some (by kernel_rfl))
 f225:=Tryz.func299.trans (congrArg some (by kernel_rfl))
 f227:=Tryz.func258.trans (congrArg some (by kernel_rfl))
 f228:=Tryz.func274.trans (congrArg some (by kernel_rfl))
 f231:=Tryz.func256.trans (congrArg some (by kernel_rfl))
 f232:=Tryz.func257.trans (congrArg some (by kernel_rfl))
 f233:=Tryz.func259.trans (congrArg some (by kernel_rfl))
 f234:=Tryz.func260.trans (congrArg some (by kernel_rfl))
 f235:=Tryz.func261.trans (congrArg some (by kernel_rfl))
 f236:=Tryz.func262.trans (congrArg some (by kernel_rfl))
 f260:=Tryz.func288.trans (congrArg some (by kernel_rfl))
 f266:=Tryz.func303.trans (congrArg some (by kernel_rfl))
 f271:=Tryz.func277.trans (congrArg some (by kernel_rfl))
 t0:=Tryz.underlying0
 a0:=Tryz.isAgg0
 z0:=Tryz.sizeOf0
 v0:=Tryz.zeroValue0
 t3:=Tryz.underlying3
 a3:=Tryz.isAgg3
 z3:=Tryz.sizeOf3
 v3:=Tryz.zeroValue3
 t4:=Tryz.underlying4
 a4:=Tryz.isAgg4
 z4:=Tryz.sizeOf4
 v4:=Tryz.zeroValue4
 t5:=Tryz.underlying5
 a5:=Tryz.isAgg5
 z5:=Tryz.sizeOf5
 v5:=Tryz.zeroValue5
 t9:=Tryz.underlying9
 a9:=Tryz.isAgg9
 z9:=Tryz.sizeOf9
 v9:=Tryz.zeroValue9
 t21:=Tryz.underlying21
 a21:=Tryz.isAgg21
 z21:=Tryz.sizeOf21
 v21:=Tryz.zeroValue21
 t46:=Tryz.underlying184
 a46:=Tryz.isAgg184
 z46:=Tryz.sizeOf184
 v46:=Tryz.zeroValue184
 t105:=Tryz.underlying366
 a105:=Tryz.isAgg366
 z105:=Tryz.sizeOf366
 v105:=Tryz.zeroValue366
 t116:=Tryz.underlying352
 a116:=Tryz.isAgg352
 z116:=Tryz.sizeOf352
 t117:=Tryz.underlying353
 a117:=Tryz.isAgg353
 z117:=Tryz.sizeOf353
 v117:=Tryz.zeroValue353
 t119:=Tryz.underlying384
 a119:=Tryz.isAgg384
 z119:=Tryz.sizeOf384
 t124:=Tryz.underlying356
 a124:=Tryz.isAgg356
 z124:=Tryz.sizeOf356
 v124:=Tryz.zeroValue356
 t138:=Tryz.underlying386
 a138:=Tryz.isAgg386
 z138:=Tryz.sizeOf386
 v138:=Tryz.zeroValue386
 t139:=Tryz.underlying387
 a139:=Tryz.isAgg387
 z139:=Tryz.sizeOf387
 v139:=Tryz.zeroValue387
 g3:=by kernel_rfl
 g4:=by kernel_rfl }
def Tryz.lays210_ren:Go.Shelf.Ren:=⟨fun | 210=>166 | 206=>199 | n=>n,fun | 9=>9 | 4=>4 | 3=>3 | n=>n,fun | n=>n⟩
def Tryz.lays103_ren:Go.Shelf.Ren:=⟨fun | 103=>101 | 210=>166 | 206=>199 | n=>n,fun | 9=>9 | 4=>4 | 24=>121 | 3=>3 | n=>n,fun | n=>n⟩
theorem Tryz.lays103:Go.Proofs.Lays.n103 Tryz.prog Tryz.lays103_ren:={
 mixed:=by kernel_rfl
 f103:=Tryz.func101.trans (congrArg some (by kernel_rfl))
 f206:=Tryz.func199.trans (congrArg some (by kernel_rfl))
 f210:=Tryz.func166.trans (congrArg some (by kernel_rfl))
 t3:=Tryz.underlying3
 a3:=Tryz.isAgg3
 z3:=Tryz.sizeOf3
 v3:=Tryz.zeroValue3
 t4:=Tryz.underlying4
 a4:=Tryz.isAgg4
 z4:=Tryz.sizeOf4
 v4:=Tryz.zeroValue4
 t9:=Tryz.underlying9
 a9:=Tryz.isAgg9
 z9:=Tryz.sizeOf9
 v9:=Tryz.zeroValue9
 t24:=Tryz.underlying121
 a24:=Tryz.isAgg121
 z24:=Tryz.sizeOf121
 v24:=Tryz.zeroValue121 }
open Go.RowKit in
theorem Tryz.strings_CutPrefix (s p:ByteArray) (w:World) :
 Calls Tryz.prog 101 #[.string s,.string p] w fun e w'=>e=.returned (.tuple #[.string ⟨(Lib.trimPrefix s.data.toList p.data.toList).toArray⟩,.bool (Lib.hasPrefix s.data.toList p.data.toList)])∧w'=w:=Any.strings_CutPrefix Tryz.lays103 s p w
def Tryz.lays172_ren:Go.Shelf.Ren:=⟨fun | 172=>245 | 244=>263 | 245=>264 | 247=>278 | 279=>279 | 280=>280 | 281=>281 | 282=>282 | 287=>291 | 316=>292 | 171=>187 | 205=>293 | 321=>300 | 322=>301 | 243=>222 | 246=>247 | 283=>265 | 284=>266 | 285=>267 | 286=>268 | 129=>243 | 317=>283 | 318=>284 | 319=>285 | 320=>286 | 337=>294 | 338=>295 | n=>n,fun | 9=>9 | 3=>3 | 75=>261 | 76=>262 | 4=>4 | 5=>5 | 167=>369 | 37=>218 | 0=>0 | 85=>370 | 2=>2 | 168=>372 | 53=>325 | 175=>379 | 46=>184 | 210=>382 | 127=>303 | 145=>392 | 143=>390 | 21=>21 | 171=>358 | 173=>360 | 212=>376 | 51=>248 | 20=>20 | 213=>377 | 232=>393 | 233=>394 | 80=>265 | n=>n,fun | 15=>2 | 16=>3 | 17=>1 | 18=>6 | 19=>7 | n=>n⟩
def Tryz.laysM246_ren:Go.Shelf.Ren:=⟨fun | 246=>247 | 283=>265 | 284=>266 | 285=>267 | 286=>268 | 129=>243 | 317=>283 | 318=>284 | 319=>285 | 320=>286 | 337=>294 | 338=>295 | n=>n,fun | 2=>2 | 3=>3 | 9=>9 | 4=>4 | 171=>358 | 0=>0 | 53=>325 | 37=>218 | 5=>5 | 173=>360 | 212=>376 | 51=>248 | 20=>20 | 213=>377 | 46=>184 | 232=>393 | 233=>394 | n=>n,fun | 17=>1 | 18=>6 | 19=>7 | n=>n⟩
def Tryz.laysM243_ren:Go.Shelf.Ren:=⟨fun | 243=>222 | 246=>247 | 283=>265 | 284=>266 | 285=>267 | 286=>268 | 129=>243 | 317=>283 | 318=>284 | 319=>285 | 320=>286 | 337=>294 | 338=>295 | n=>n,fun | 3=>3 | 9=>9 | 2=>2 | 4=>4 | 171=>358 | 0=>0 | 53=>325 | 37=>218 | 5=>5 | 173=>360 | 212=>376 | 51=>248 | 20=>20 | 213=>377 | 46=>184 | 232=>393 | 233=>394 | n=>n,fun | 17=>1 | 18=>6 | 19=>7 | n=>n⟩
def Tryz.laysM171_ren:Go.Shelf.Ren:=⟨fun | 171=>187 | 243=>222 | 246=>247 | 283=>265 | 284=>266 | 285=>267 | 286=>268 | 129=>243 | 317=>283 | 318=>284 | 319=>285 | 320=>286 | 337=>294 | 338=>295 | n=>n,fun | 3=>3 | 9=>9 | 2=>2 | 4=>4 | 171=>358 | 0=>0 | 53=>325 | 37=>218 | 5=>5 | 173=>360 | 212=>376 | 51=>248 | 20=>20 | 213=>377 | 46=>184 | 232=>393 | 233=>394 | n=>n,fun | 17=>1 | 18=>6 | 19=>7 | n=>n⟩
theorem Tryz.laysM171:Go.Proofs.LaysM.n171 Tryz.prog Tryz.laysM171_ren:={
 mixed:=by kernel_rfl
 f129:=Tryz.func243.trans (congrArg some (by kernel_rfl))
 f171:=Tryz.func187.trans (congrArg some (by kernel_rfl))
 f243:=Tryz.func222.trans (congrArg some (by kernel_rfl))
 f246:=Tryz.func247.trans (congrArg some (by kernel_rfl))
 f283:=Tryz.func265.trans (congrArg some (by kernel_rfl))
 f284:=Tryz.func266.trans (congrArg some (by kernel_rfl))
 f285:=Tryz.func267.trans (congrArg some (by kernel_rfl))
 f286:=Tryz.func268.trans (congrArg some (by kernel_rfl))
 f317:=Tryz.func283.trans (congrArg some (by kernel_rfl))
 f318:=Tryz.func284.trans (congrArg some (by kernel_rfl))
 f319:=Tryz.func285.trans (congrArg some (by kernel_rfl))
 f320:=Tryz.func286.trans (congrArg some (by kernel_rfl))
 f337:=Tryz.func294.trans (congrArg some (by kernel_rfl))
 f338:=Tryz.func295.trans (congrArg some (by kernel_rfl))
 t0:=Tryz.underlying0
 a0:=Tryz.isAgg0
 z0:=Tryz.sizeOf0
 v0:=Tryz.zeroValue0
 t2:=Tryz.underlying2
 a2:=Tryz.isAgg2
 z2:=Tryz.sizeOf2
 v2:=Tryz.zeroValue2
 t3:=Tryz.underlying3
 a3:=Tryz.isAgg3
 z3:=Tryz.sizeOf3
 v3:=Tryz.zeroValue3
 t4:=Tryz.underlying4
 a4:=Tryz.isAgg4
 z4:=Tryz.sizeOf4
 v4:=Tryz.zeroValue4
 t5:=Tryz.underlying5
 a5:=Tryz.isAgg5
 z5:=Tryz.sizeOf5
 v5:=Tryz.zeroValue5
 t9:=Tryz.underlying9
 a9:=Tryz.isAgg9
 z9:=Tryz.sizeOf9
 v9:=Tryz.zeroValue9
 t20:=Tryz.underlying20
 a20:=Tryz.isAgg20
 z20:=Tryz.sizeOf20
 v20:=Tryz.zeroValue20
 t37:=Tryz.underlying218
 a37:=Tryz.isAgg218
 z37:=Tryz.sizeOf218
 v37:=Tryz.zeroValue218
 t46:=Tryz.underlying184
 a46:=Tryz.isAgg184
 z46:=Tryz.sizeOf184
 v46:=Tryz.zeroValue184
 t51:=Tryz.underlying248
 a51:=Tryz.isAgg248
 z51:=Tryz.sizeOf248
 v51:=Tryz.zeroValue248
 t53:=Tryz.underlying325
 a53:=Tryz.isAgg325
 z53:=Tryz.sizeOf325
 v53:=Tryz.zeroValue325
 t171:=Tryz.underlying358
 a171:=Tryz.isAgg358
 z171:=Tryz.sizeOf358
 v171:=Tryz.zeroValue358
 t173:=Tryz.underlying360
 a173:=Tryz.isAgg360
 z173:=Tryz.sizeOf360
 v173:=Tryz.zeroValue360
 t212:=Tryz.underlying376
 a212:=Tryz.isAgg376
 z212:=Tryz.sizeOf376
 v212:=Tryz.zeroValue376
 t213:=Tryz.underlying377
 a213:=Tryz.isAgg377
 z213:=Tryz.sizeOf377
 t232:=Tryz.underlying393
 a232:=Tryz.isAgg393
 z232:=Tryz.sizeOf393
 v232:=Tryz.zeroValue393
 t233:=Tryz.underlying394
 a233:=Tryz.isAgg394
 z233:=Tryz.sizeOf394
 v233:=Tryz.zeroValue394
 g17:=by kernel_rfl
 g18:=by kernel_rfl
 g19:=by kernel_rfl
 i0:=by kernel_rfl
 i2:=by kernel_rfl
 i3:=by kernel_rfl
 i4:=by kernel_rfl
 i5:=by kernel_rfl
 i9:=by kernel_rfl
 i20:=by kernel_rfl
 i37:=by kernel_rfl
 i46:=by kernel_rfl
 i51:=by kernel_rfl
 i53:=by kernel_rfl
 i171:=by kernel_rfl
 i173:=by kernel_rfl
 i212:=by kernel_rfl
 i232:=by kernel_rfl
 i233:=by kernel_rfl
 m17:=by kernel_rfl
 m18:=by kernel_rfl
 m19:=by kernel_rfl }
open Go.RowKit Go.Sort Go.Lib in
theorem Tryz.strconv_Itoa (n:Int) (h0 : -9223372036854775808≤n) (h1:n≤9223372036854775807) (w:World) (htab:Lib.TabIs Tryz.prog w "internal/strconv.uint64pow10" .u64 Lib.pow10Tab) :
 Calls Tryz.prog 187 #[.int .i64 n] w fun e w'=>e=.returned (.string ⟨(Lib.itoa n).toArray⟩)∧∃ k os,w'=grow (w.drewN k) os:=Any.strconv_Itoa Tryz.laysM171 n h0 h1 w htab
def Tryz.laysC172_ren:Go.Shelf.Ren:=⟨fun | 172=>245 | 244=>263 | 245=>264 | 247=>278 | 279=>279 | 280=>280 | 281=>281 | 282=>282 | 287=>291 | 316=>292 | 171=>187 | 205=>293 | 321=>300 | 322=>301 | 243=>222 | 246=>247 | 283=>265 | 284=>266 | 285=>267 | 286=>268 | 129=>243 | 317=>283 | 318=>284 | 319=>285 | 320=>286 | 337=>294 | 338=>295 | n=>n,fun | 9=>9 | 3=>3 | 75=>261 | 76=>262 | 4=>4 | 5=>5 | 167=>369 | 37=>218 | 0=>0 | 85=>370 | 2=>2 | 168=>372 | 53=>325 | 175=>379 | 46=>184 | 210=>382 | 127=>303 | 145=>392 | 143=>390 | 21=>21 | 171=>358 | 173=>360 | 212=>376 | 51=>248 | 20=>20 | 213=>377 | 232=>393 | 233=>394 | 80=>265 | n=>n,fun | 15=>2 | 16=>3 | 17=>1 | 18=>6 | 19=>7 | n=>n⟩
theorem Tryz.laysC172:Go.Proofs.LaysC.n172 Tryz.prog Tryz.laysC172_ren:={
 mixed:=by kernel_rfl
 f129:=Tryz.func243.trans (congrArg some (by kernel_rfl))
 f171:=Tryz.func187.trans (congrArg some (by kernel_rfl))
 f172:=Tryz.func245.trans (congrArg some (by kernel_rfl))
 f205:=Tryz.func293.trans (congrArg some (by kernel_rfl))
 f243:=Tryz.func222.trans (congrArg some (by kernel_rfl))
 f244:=Tryz.func263.trans (congrArg some (by kernel_rfl))
 f245:=Tryz.func264.trans (congrArg some (by kernel_rfl))
 f246:=Tryz.func247.trans (congrArg some (by kernel_rfl))
 f247:=Tryz.func278.trans (congrArg some (by kernel_rfl))
 f279:=Tryz.func279.trans (congrArg some (by kernel_rfl))
 f280:=Tryz.func280.trans (congrArg some (by kernel_rfl))
 f281:=Tryz.func281.trans (congrArg some (by kernel_rfl))
 f282:=Tryz.func282.trans (congrArg some (by kernel_rfl))
 f283:=Tryz.func265.trans (congrArg some (by kernel_rfl))
 f284:=Tryz.func266.trans (congrArg some (by kernel_rfl))
 f285:=Tryz.func267.trans (congrArg some (by kernel_rfl))
 f286:=Tryz.func268.trans (congrArg some (by kernel_rfl))
 f287:=Tryz.func291.trans (congrArg some (by kernel_rfl))
 f316:=Tryz.func292.trans (congrArg some (by kernel_rfl))
 f317:=Tryz.func283.trans (congrArg some (by kernel_rfl))
 f318:=Tryz.func284.trans (congrArg some (by kernel_rfl))
 f319:=Tryz.func285.trans (congrArg some (by kernel_rfl))
 f320:=Tryz.func286.trans (congrArg some (by kernel_rfl))
 f321:=Tryz.func300.trans (congrArg some (by kernel_rfl))
 f322:=Tryz.func301.trans (congrArg some (by kernel_rfl))
 f337:=Tryz.func294.trans (congrArg some (by kernel_rfl))
 f338:=Tryz.func295.trans (congrArg some (by kernel_rfl))
 t0:=Tryz.underlying0
 a0:=Tryz.isAgg0
 z0:=Tryz.sizeOf0
 v0:=Tryz.zeroValue0
 t2:=Tryz.underlying2
 a2:=Tryz.isAgg2
 z2:=Tryz.sizeOf2
 v2:=Tryz.zeroValue2
 t3:=Tryz.underlying3
 a3:=Tryz.isAgg3
 z3:=Tryz.sizeOf3
 v3:=Tryz.zeroValue3
 t4:=Tryz.underlying4
 a4:=Tryz.isAgg4
 z4:=Tryz.sizeOf4
 v4:=Tryz.zeroValue4
 t5:=Tryz.underlying5
 a5:=Tryz.isAgg5
 z5:=Tryz.sizeOf5
 v5:=Tryz.zeroValue5
 t9:=Tryz.underlying9
 a9:=Tryz.isAgg9
 z9:=Tryz.sizeOf9
 v9:=Tryz.zeroValue9
 t20:=Tryz.underlying20
 a20:=Tryz.isAgg20
 z20:=Tryz.sizeOf20
 v20:=Tryz.zeroValue20
 t21:=Tryz.underlying21
 a21:=Tryz.isAgg21
 z21:=Tryz.sizeOf21
 v21:=Tryz.zeroValue21
 t37:=Tryz.underlying218
 a37:=Tryz.isAgg218
 z37:=Tryz.sizeOf218
 v37:=Tryz.zeroValue218
 t46:=Tryz.underlying184
 a46:=Tryz.isAgg184
 z46:=Tryz.sizeOf184
 v46:=Tryz.zeroValue184
 t51:=Tryz.underlying248
 a51:=Tryz.isAgg248
 z51:=Tryz.sizeOf248
 v51:=Tryz.zeroValue248
 t53:=Tryz.underlying325
 a53:=Tryz.isAgg325
 z53:=Tryz.sizeOf325
 v53:=Tryz.zeroValue325
 t75:=Tryz.underlying261
 a75:=Tryz.isAgg261
 z75:=Tryz.sizeOf261
 v75:=Tryz.zeroValue261
 t76:=Tryz.underlying262
 a76:=Tryz.isAgg262
 z76:=Tryz.sizeOf262
 v76:=Tryz.zeroValue262
 t85:=Tryz.underlying370
 a85:=Tryz.isAgg370
 z85:=Tryz.sizeOf370
 v85:=Tryz.zeroValue370
 t127:=Tryz.underlying303
 a127:=Tryz.isAgg303
 z127:=Tryz.sizeOf303
 v127:=Tryz.zeroValue303
 t143:=Tryz.underlying390
 a143:=Tryz.isAgg390
 z143:=Tryz.sizeOf390
 v143:=Tryz.zeroValue390
 t145:=Tryz.underlying392
 a145:=Tryz.isAgg392
 z145:=Tryz.sizeOf392
 v145:=Tryz.zeroValue392
 t167:=Tryz.underlying369
 a167:=Tryz.isAgg369
 z167:=Tryz.sizeOf369
 v167:=Tryz.zeroValue369
 t168:=Tryz.underlying372
 a168:=Tryz.isAgg372
 z168:=Tryz.sizeOf372
 v168:=Tryz.zeroValue372
 t171:=Tryz.underlying358
 a171:=Tryz.isAgg358
 z171:=Tryz.sizeOf358
 v171:=Tryz.zeroValue358
 t173:=Tryz.underlying360
 a173:=Tryz.isAgg360
 z173:=Tryz.sizeOf360
 v173:=Tryz.zeroValue360
 t175:=Tryz.underlying379
 a175:=Tryz.isAgg379
 z175:=Tryz.sizeOf379
 v175:=Tryz.zeroValue379
 t210:=Tryz.underlying382
 a210:=Tryz.isAgg382
 z210:=Tryz.sizeOf382
 v210:=Tryz.zeroValue382
 t212:=Tryz.underlying376
 a212:=Tryz.isAgg376
 z212:=Tryz.sizeOf376
 v212:=Tryz.zeroValue376
 t213:=Tryz.underlying377
 a213:=Tryz.isAgg377
 z213:=Tryz.sizeOf377
 t232:=Tryz.underlying393
 a232:=Tryz.isAgg393
 z232:=Tryz.sizeOf393
 v232:=Tryz.zeroValue393
 t233:=Tryz.underlying394
 a233:=Tryz.isAgg394
 z233:=Tryz.sizeOf394
 v233:=Tryz.zeroValue394
 g15:=by kernel_rfl
 g16:=by kernel_rfl
 g17:=by kernel_rfl
 g18:=by kernel_rfl
 g19:=by kernel_rfl
 t80:=Tryz.underlying265
 a80:=Tryz.isAgg265
 z80:=Tryz.sizeOf265
 v80:=Tryz.zeroValue265
 i0:=by kernel_rfl
 i2:=by kernel_rfl
 i3:=by kernel_rfl
 i4:=by kernel_rfl
 i5:=by kernel_rfl
 i9:=by kernel_rfl
 i20:=by kernel_rfl
 i21:=by kernel_rfl
 i37:=by kernel_rfl
 i46:=by kernel_rfl
 i51:=by kernel_rfl
 i53:=by kernel_rfl
 i75:=by kernel_rfl
 i76:=by kernel_rfl
 i80:=by kernel_rfl
 i85:=by kernel_rfl
 i127:=by kernel_rfl
 i143:=by kernel_rfl
 i145:=by kernel_rfl
 i167:=by kernel_rfl
 i168:=by kernel_rfl
 i171:=by kernel_rfl
 i173:=by kernel_rfl
 i175:=by kernel_rfl
 i210:=by kernel_rfl
 i212:=by kernel_rfl
 i232:=by kernel_rfl
 i233:=by kernel_rfl
 m15:=by kernel_rfl
 m16:=by kernel_rfl
 m17:=by kernel_rfl
 m18:=by kernel_rfl
 m19:=by kernel_rfl
 c0:=by kernel_rfl
 c2:=by kernel_rfl
 c3:=by kernel_rfl
 c4:=by kernel_rfl
 c5:=by kernel_rfl
 c9:=by kernel_rfl
 c20:=by kernel_rfl
 c21:=by kernel_rfl
 c37:=by kernel_rfl
 c46:=by kernel_rfl
 c51:=by kernel_rfl
 c53:=by kernel_rfl
 c75:=by kernel_rfl
 c76:=by kernel_rfl
 c80:=by kernel_rfl
 c85:=by kernel_rfl
 c127:=by kernel_rfl
 c143:=by kernel_rfl
 c145:=by kernel_rfl
 c167:=by kernel_rfl
 c168:=by kernel_rfl
 c171:=by kernel_rfl
 c173:=by kernel_rfl
 c175:=by kernel_rfl
 c210:=by kernel_rfl
 c212:=by kernel_rfl
 c213:=by kernel_rfl
 c232:=by kernel_rfl
 c233:=by kernel_rfl }
open Go.RowKit in
theorem Tryz.strconv_Atoi_ok (s:ByteArray) (hmax:s.size≤9223372036854775806) (v:Int) (h:Lib.atoiAll s.data.toList=.ok v) (w:World) :
 Calls Tryz.prog 245 #[.string s] w fun e w'=>e=.returned (.tuple #[.int .i64 v,.nilIface])∧(w'=w∨∃ t,w'=Lib.bytesWorld w 5 t):=Any.strconv_Atoi_ok Tryz.laysC172 s hmax v h w
def Tryz.lays190_ren:Go.Shelf.Ren:=⟨fun | 190=>168 | 125=>216 | 258=>215 | 128=>242 | 129=>243 | 302=>233 | 303=>234 | 304=>235 | 305=>236 | 306=>237 | 307=>238 | 308=>239 | 309=>240 | 310=>241 | 333=>251 | 329=>252 | 330=>253 | 334=>254 | 335=>255 | 336=>246 | 344=>273 | n=>n,fun | 31=>31 | 9=>9 | 3=>3 | 46=>184 | 0=>0 | 51=>248 | 53=>325 | 4=>4 | 183=>330 | 182=>329 | 131=>117 | 5=>5 | 218=>344 | 222=>348 | 228=>362 | 229=>363 | n=>n,fun | n=>n⟩
theorem Tryz.lays190:Go.Proofs.Lays.n190 Tryz.prog Tryz.lays190_ren:={
 mixed:=by kernel_rfl
 f125:=Tryz.func216.trans (congrArg some (by kernel_rfl))
 f128:=Tryz.func242.trans (congrArg some (by kernel_rfl))
 f129:=Tryz.func243.trans (congrArg some (by kernel_rfl))
 f190:=Tryz.func168.trans (congrArg some (by kernel_rfl))
 f258:=Tryz.func215.trans (congrArg some (by kernel_rfl))
 f302:=Tryz.func233.trans (congrArg some (by kernel_rfl))
 f303:=Tryz.func234.trans (congrArg some (by kernel_rfl))
 f304:=Tryz.func235.trans (congrArg some (by kernel_rfl))
 f305:=Tryz.func236.trans (congrArg some (by kernel_rfl))
 f306:=Tryz.func237.trans (congrArg some (by kernel_rfl))
 f307:=Tryz.func238.trans (congrArg some (by kernel_rfl))
 f308:=Tryz.func239.trans (congrArg some (by kernel_rfl))
 f309:=Tryz.func240.trans (congrArg some (by kernel_rfl))
 f310:=Tryz.func241.trans (congrArg some (by kernel_rfl))
 f329:=Tryz.func252.trans (congrArg some (by kernel_rfl))
 f330:=Tryz.func253.trans (congrArg some (by kernel_rfl))
 f333:=Tryz.func251.trans (congrArg some (by kernel_rfl))
 f334:=Tryz.func254.trans (congrArg some (by kernel_rfl))
 f335:=Tryz.func255.trans (congrArg some (by kernel_rfl))
 f336:=Tryz.func246.trans (congrArg some (by kernel_rfl))
 f344:=Tryz.func273.trans (congrArg some (by kernel_rfl))
 t0:=Tryz.underlying0
 a0:=Tryz.isAgg0
 z0:=Tryz.sizeOf0
 v0:=Tryz.zeroValue0
 t3:=Tryz.underlying3
 a3:=Tryz.isAgg3
 z3:=Tryz.sizeOf3
 v3:=Tryz.zeroValue3
 t4:=Tryz.underlying4
 a4:=Tryz.isAgg4
 z4:=Tryz.sizeOf4
 v4:=Tryz.zeroValue4
 t5:=Tryz.underlying5
 a5:=Tryz.isAgg5
 z5:=Tryz.sizeOf5
 v5:=Tryz.zeroValue5
 t9:=Tryz.underlying9
 a9:=Tryz.isAgg9
 z9:=Tryz.sizeOf9
 v9:=Tryz.zeroValue9
 t31:=Tryz.underlying31
 a31:=Tryz.isAgg31
 z31:=Tryz.sizeOf31
 v31:=Tryz.zeroValue31
 t46:=Tryz.underlying184
 a46:=Tryz.isAgg184
 z46:=Tryz.sizeOf184
 v46:=Tryz.zeroValue184
 t51:=Tryz.underlying248
 a51:=Tryz.isAgg248
 z51:=Tryz.sizeOf248
 v51:=Tryz.zeroValue248
 t53:=Tryz.underlying325
 a53:=Tryz.isAgg325
 z53:=Tryz.sizeOf325
 v53:=Tryz.zeroValue325
 t131:=Tryz.underlying117
 a131:=Tryz.isAgg117
 z131:=Tryz.sizeOf117
 v131:=Tryz.zeroValue117
 t182:=Tryz.underlying329
 a182:=Tryz.isAgg329
 z182:=Tryz.sizeOf329
 v182:=Tryz.zeroValue329
 t183:=Tryz.underlying330
 a183:=Tryz.isAgg330
 z183:=Tryz.sizeOf330
 v183:=Tryz.zeroValue330
 t218:=Tryz.underlying344
 a218:=Tryz.isAgg344
 z218:=Tryz.sizeOf344
 v218:=Tryz.zeroValue344
 t222:=Tryz.underlying348
 a222:=Tryz.isAgg348
 z222:=Tryz.sizeOf348
 v222:=Tryz.zeroValue348
 t228:=Tryz.underlying362
 a228:=Tryz.isAgg362
 z228:=Tryz.sizeOf362
 v228:=Tryz.zeroValue362
 t229:=Tryz.underlying363
 a229:=Tryz.isAgg363
 z229:=Tryz.sizeOf363
 v229:=Tryz.zeroValue363 }
open Go.Sort Go.RowKit in
theorem Tryz.slices_Sort_string (blk off cap:Nat) (ss:List (List UInt8)) (w:World) (hH:Holds encStr w blk off ss.toArray) (hblk:blk < w.heap.size) (hsz:ss.length < 4611686018427387904) :
 Calls Tryz.prog 168 #[.slice (some ⟨blk,off,none⟩) ss.length cap] w fun e w' =>
  e=.returned (.tuple #[])∧∃ n os,w'=grow (putRow encStr (Sort.ahead w n) blk off (ss.mergeSort fun x y=>decide (x≤y)).toArray) os:=Any.slices_Sort_string Tryz.lays190 blk off cap ss w hH hblk hsz
def Tryz.laysGw15_ren:Go.Shelf.Ren:=⟨fun | 15=>141 | 20=>196 | n=>n,fun | 9=>9 | 23=>241 | 3=>3 | 4=>4 | 0=>0 | 21=>21 | n=>n,fun | n=>n⟩
theorem Tryz.laysGw15:Go.Proofs.LaysGw.n15 Tryz.prog Tryz.laysGw15_ren:={
 mixed:=by kernel_rfl
 f15:=Tryz.func141.trans (congrArg some (by kernel_rfl))
 f20:=Tryz.func196.trans (congrArg some (by kernel_rfl))
 t0:=Tryz.underlying0
 a0:=Tryz.isAgg0
 z0:=Tryz.sizeOf0
 v0:=Tryz.zeroValue0
 i0:=by kernel_rfl
 t3:=Tryz.underlying3
 a3:=Tryz.isAgg3
 z3:=Tryz.sizeOf3
 v3:=Tryz.zeroValue3
 i3:=by kernel_rfl
 t4:=Tryz.underlying4
 a4:=Tryz.isAgg4
 z4:=Tryz.sizeOf4
 v4:=Tryz.zeroValue4
 i4:=by kernel_rfl
 t9:=Tryz.underlying9
 a9:=Tryz.isAgg9
 z9:=Tryz.sizeOf9
 v9:=Tryz.zeroValue9
 i9:=by kernel_rfl
 t21:=Tryz.underlying21
 a21:=Tryz.isAgg21
 z21:=Tryz.sizeOf21
 v21:=Tryz.zeroValue21
 i21:=by kernel_rfl
 t23:=Tryz.underlying241
 a23:=Tryz.isAgg241
 z23:=Tryz.sizeOf241
 v23:=Tryz.zeroValue241
 i23:=by kernel_rfl }
open Go.RowKit Go.Lib in
theorem Tryz.strings_IndexFunc (g:Nat) (lb:Array Value) (eg:∀ args w,(callFunc g args).run Tryz.prog w=.ok (.enter g args) w) (p:Nat→Bool) (s:ByteArray) (w:World) (hp:PredAt Tryz.prog g lb encR p w) :
 Calls Tryz.prog 141 #[.string s,.func (.func g) #[] lb] w fun e w'=>e=.returned (.int .i64 (Lib.idxFunc p true s))∧Below w.heap.size w w':=Any.strings_IndexFunc Tryz.laysGw15 g lb eg p s w hp
def Tryz.lays99_ren:Go.Shelf.Ren:=⟨fun | 99=>149 | 206=>199 | n=>n,fun | 9=>9 | 4=>4 | 3=>3 | n=>n,fun | n=>n⟩
theorem Tryz.lays99:Go.Proofs.Lays.n99 Tryz.prog Tryz.lays99_ren:={
 mixed:=by kernel_rfl
 f99:=Tryz.func149.trans (congrArg some (by kernel_rfl))
 f206:=Tryz.func199.trans (congrArg some (by kernel_rfl))
 t3:=Tryz.underlying3
 a3:=Tryz.isAgg3
 z3:=Tryz.sizeOf3
 v3:=Tryz.zeroValue3
 t4:=Tryz.underlying4
 a4:=Tryz.isAgg4
 z4:=Tryz.sizeOf4
 v4:=Tryz.zeroValue4
 t9:=Tryz.underlying9
 a9:=Tryz.isAgg9
 z9:=Tryz.sizeOf9
 v9:=Tryz.zeroValue9 }
open Go.RowKit Go.Lib in
theorem Tryz.strings_HasPrefix (s p:ByteArray) (w:World) :
 Calls Tryz.prog 149 #[.string s,.string p] w fun e w'=>e=.returned (.bool (Lib.hasPrefix s.data.toList p.data.toList))∧w'=w:=Any.strings_HasPrefix Tryz.lays99 s p w
def Tryz.lays105_ren:Go.Shelf.Ren:=⟨fun | 105=>165 | 212=>211 | 99=>149 | 165=>212 | 166=>157 | 170=>213 | 169=>159 | 263=>230 | 264=>231 | 206=>199 | 240=>206 | 241=>232 | 276=>229 | 277=>250 | n=>n,fun | 9=>9 | 3=>3 | 4=>4 | 20=>20 | 0=>0 | 46=>184 | 109=>306 | 5=>5 | 72=>259 | 76=>262 | 51=>248 | 146=>323 | 53=>325 | 148=>326 | 70=>257 | 37=>218 | 75=>261 | 127=>303 | 164=>321 | 80=>265 | n=>n,fun | n=>n⟩
theorem Tryz.lays105:Go.Proofs.Lays.n105 Tryz.prog Tryz.lays105_ren:={
 mixed:=by kernel_rfl
 f99:=Tryz.func149.trans (congrArg some (by kernel_rfl))
 f105:=Tryz.func165.trans (congrArg some (by kernel_rfl))
 f165:=Tryz.func212.trans (congrArg some (by kernel_rfl))
 f166:=Tryz.func157.trans (congrArg some (by kernel_rfl))
 f169:=Tryz.func159.trans (congrArg some (by kernel_rfl))
 f170:=Tryz.func213.trans (congrArg some (by kernel_rfl))
 f206:=Tryz.func199.trans (congrArg some (by kernel_rfl))
 f212:=Tryz.func211.trans (congrArg some (by kernel_rfl))
 f240:=Tryz.func206.trans (congrArg some (by kernel_rfl))
 f241:=Tryz.func232.trans (congrArg some (by kernel_rfl))
 f263:=Tryz.func230.trans (congrArg some (by kernel_rfl))
 f264:=Tryz.func231.trans (congrArg some (by kernel_rfl))
 f276:=Tryz.func229.trans (congrArg some (by kernel_rfl))
 f277:=Tryz.func250.trans (congrArg some (by kernel_rfl))
 t0:=Tryz.underlying0
 a0:=Tryz.isAgg0
 z0:=Tryz.sizeOf0
 v0:=Tryz.zeroValue0
 t3:=Tryz.underlying3
 a3:=Tryz.isAgg3
 z3:=Tryz.sizeOf3
 v3:=Tryz.zeroValue3
 t4:=Tryz.underlying4
 a4:=Tryz.isAgg4
 z4:=Tryz.sizeOf4
 v4:=Tryz.zeroValue4
 t5:=Tryz.underlying5
 a5:=Tryz.isAgg5
 z5:=Tryz.sizeOf5
 v5:=Tryz.zeroValue5
 t9:=Tryz.underlying9
 a9:=Tryz.isAgg9
 z9:=Tryz.sizeOf9
 v9:=Tryz.zeroValue9
 t20:=Tryz.underlying20
 a20:=Tryz.isAgg20
 z20:=Tryz.sizeOf20
 v20:=Tryz.zeroValue20
 t37:=Tryz.underlying218
 a37:=Tryz.isAgg218
 z37:=Tryz.sizeOf218
 v37:=Tryz.zeroValue218
 t46:=Tryz.underlying184
 a46:=Tryz.isAgg184
 z46:=Tryz.sizeOf184
 v46:=Tryz.zeroValue184
 t51:=Tryz.underlying248
 a51:=Tryz.isAgg248
 z51:=Tryz.sizeOf248
 v51:=Tryz.zeroValue248
 t53:=Tryz.underlying325
 a53:=Tryz.isAgg325
 z53:=Tryz.sizeOf325
 v53:=Tryz.zeroValue325
 t70:=Tryz.underlying257
 a70:=Tryz.isAgg257
 z70:=Tryz.sizeOf257
 v70:=Tryz.zeroValue257
 t72:=Tryz.underlying259
 a72:=Tryz.isAgg259
 z72:=Tryz.sizeOf259
 v72:=Tryz.zeroValue259
 t75:=Tryz.underlying261
 a75:=Tryz.isAgg261
 z75:=Tryz.sizeOf261
 v75:=Tryz.zeroValue261
 t76:=Tryz.underlying262
 a76:=Tryz.isAgg262
 z76:=Tryz.sizeOf262
 v76:=Tryz.zeroValue262
 t109:=Tryz.underlying306
 a109:=Tryz.isAgg306
 z109:=Tryz.sizeOf306
 v109:=Tryz.zeroValue306
 t127:=Tryz.underlying303
 a127:=Tryz.isAgg303
 z127:=Tryz.sizeOf303
 v127:=Tryz.zeroValue303
 t146:=Tryz.underlying323
 a146:=Tryz.isAgg323
 z146:=Tryz.sizeOf323
 v146:=Tryz.zeroValue323
 t148:=Tryz.underlying326
 a148:=Tryz.isAgg326
 z148:=Tryz.sizeOf326
 v148:=Tryz.zeroValue326
 t164:=Tryz.underlying321
 a164:=Tryz.isAgg321
 z164:=Tryz.sizeOf321
 v164:=Tryz.zeroValue321 }
theorem Tryz.Builder_Extra_105:Builder.Extra Tryz.prog Tryz.lays105_ren:={
 sizeBuilder:=by kernel_rfl
 liesBuilder:=by kernel_rfl
 t5:=Tryz.underlying5
 a5:=Tryz.isAgg5
 z5:=Tryz.sizeOf5
 v5:=Tryz.zeroValue5
 infoByte:=by kernel_rfl
 cellsByte:=by kernel_rfl
 sizeByte:=by kernel_rfl
 neB5:=by decide }
open Go.RowKit Go.Lib in
theorem Tryz.strings_Repeat (s:ByteArray) (c:Nat) (w:World) (hc:c≤9223372036854775807) (hlen:s.size * c≤140737488355328) :
 Calls Tryz.prog 165 #[.string s,.int .i64 c] w fun e w'=>e=.returned (.string ⟨(Lib.repeatL s.data.toList c).toArray⟩)∧Below w.heap.size w w':=Any.strings_Repeat Tryz.lays105 Tryz.Builder_Extra_105 s c w hc hlen
def Tryz.lays110_ren:Go.Shelf.Ren:=⟨fun | 110=>87 | 109=>145 | n=>n,fun | 31=>31 | 9=>9 | 4=>4 | 3=>3 | 0=>0 | n=>n,fun | n=>n⟩
def Tryz.lays193_ren:Go.Shelf.Ren:=⟨fun | 193=>210 | n=>n,fun | 31=>31 | 9=>9 | 4=>4 | 3=>3 | 0=>0 | n=>n,fun | n=>n⟩
theorem Tryz.lays193:Go.Proofs.Lays.n193 Tryz.prog Tryz.lays193_ren:={
 mixed:=by kernel_rfl
 f193:=Tryz.func210.trans (congrArg some (by kernel_rfl))
 t0:=Tryz.underlying0
 a0:=Tryz.isAgg0
 z0:=Tryz.sizeOf0
 v0:=Tryz.zeroValue0
 t3:=Tryz.underlying3
 a3:=Tryz.isAgg3
 z3:=Tryz.sizeOf3
 v3:=Tryz.zeroValue3
 t4:=Tryz.underlying4
 a4:=Tryz.isAgg4
 z4:=Tryz.sizeOf4
 v4:=Tryz.zeroValue4
 t9:=Tryz.underlying9
 a9:=Tryz.isAgg9
 z9:=Tryz.sizeOf9
 v9:=Tryz.zeroValue9
 t31:=Tryz.underlying31
 a31:=Tryz.isAgg31
 z31:=Tryz.sizeOf31
 v31:=Tryz.zeroValue31 }
open Go.RowKit Go.Lib in
theorem Tryz.slices_Equal_string (b1 o1 n c b2 o2 m d:Nat) (xs ys:List ByteArray) (w:World) (hx:n≤xs.length) (hy:m≤ys.length) (hbig:n≤9223372036854775807) (hbig2:m≤9223372036854775807) (hc1:∀ j,j < xs.length→w.cell? ⟨b1,o1+j,none⟩=some (.string (xs.getD j ByteArray.empty))) (hc2:∀ j,j < ys.length→w.cell? ⟨b2,o2+j,none⟩=some (.string (ys.getD j ByteArray.empty))) :
 Calls Tryz.prog 210 #[.slice (some ⟨b1,o1,none⟩) n c,.slice (some ⟨b2,o2,none⟩) m d] w fun e w'=>e=.returned (.bool (decide (xs.take n=ys.take m)))∧∃ q,w'=w.drewN q:=Any.slices_Equal_string Tryz.lays193 b1 o1 n c b2 o2 m d xs ys w hx hy hbig hbig2 hc1 hc2
open Go.RowKit Go.Lib in
theorem Tryz.slices_Equal_string_empty (a1 a2:Option Addr) (c m d:Nat) (w:World) (hbig2:m≤9223372036854775807) :
 Calls Tryz.prog 210 #[.slice a1 0 c,.slice a2 m d] w fun e w'=>e=.returned (.bool (decide (m=0)))∧w'=w:=Any.slices_Equal_string_empty Tryz.lays193 a1 a2 c m d w hbig2
def Tryz.laysNm215_ren:Go.Shelf.Ren:=⟨fun | 15=>24 | n=>n,fun | 22=>49 | 3=>3 | 4=>4 | n=>n,fun | n=>n⟩
theorem Tryz.laysNm215:Go.Proofs.Lays2.n15 Tryz.prog Tryz.laysNm215_ren:={
 mixed:=by kernel_rfl
 f15:=Tryz.func24.trans (congrArg some (by kernel_rfl))
 t3:=Tryz.underlying3
 a3:=Tryz.isAgg3
 z3:=Tryz.sizeOf3
 v3:=Tryz.zeroValue3
 t4:=Tryz.underlying4
 a4:=Tryz.isAgg4
 z4:=Tryz.sizeOf4
 v4:=Tryz.zeroValue4
 t22:=Tryz.underlying49
 a22:=Tryz.isAgg49
 z22:=Tryz.sizeOf49
 v22:=Tryz.zeroValue49
 i3:=by kernel_rfl }
open Go.RowKit Go.Lib in
theorem Tryz.slices_Clone_int (b off n c:Nat) (zs:List Int) (w:World) (hz:n≤zs.length) (hbig:n * 8≤140737488355328) (hc:∀ j,j < zs.length→w.cell? ⟨b,off+j,none⟩=some (.int .i64 (zs.getD j 0))) :
 Calls Tryz.prog 24 #[.slice (some ⟨b,off,none⟩) n c] w fun e w'=>∃ v',e=.returned v'∧w'.ownsRow w.heap.size 3 1 v' n ((zs.take n).map (Value.int .i64))∧v'≠.slice none 0 0∧Below w.heap.size w w':=Any.slices_Clone_int Tryz.laysNm215 b off n c zs w hz hbig hc
open Go.RowKit Go.Lib in
theorem Tryz.slices_Clone_int_nil (n c:Nat) (w:World) :
 Calls Tryz.prog 24 #[.slice none n c] w fun e w'=>e=.returned (.slice none 0 0)∧w'=w:=Any.slices_Clone_int_nil Tryz.laysNm215 n c w
def Tryz.laysNm216_ren:Go.Shelf.Ren:=⟨fun | 16=>59 | n=>n,fun | 24=>31 | 9=>9 | 4=>4 | n=>n,fun | n=>n⟩
theorem Tryz.laysNm216:Go.Proofs.Lays2.n16 Tryz.prog Tryz.laysNm216_ren:={
 mixed:=by kernel_rfl
 f16:=Tryz.func59.trans (congrArg some (by kernel_rfl))
 t4:=Tryz.underlying4
 a4:=Tryz.isAgg4
 z4:=Tryz.sizeOf4
 v4:=Tryz.zeroValue4
 t9:=Tryz.underlying9
 a9:=Tryz.isAgg9
 z9:=Tryz.sizeOf9
 v9:=Tryz.zeroValue9
 t24:=Tryz.underlying31
 a24:=Tryz.isAgg31
 z24:=Tryz.sizeOf31
 v24:=Tryz.zeroValue31
 i9:=by kernel_rfl }
open Go.RowKit Go.Lib in
theorem Tryz.slices_Clone_string (b off n c:Nat) (zs:List ByteArray) (w:World) (hz:n≤zs.length) (hbig:n * 16≤140737488355328) (hc:∀ j,j < zs.length→w.cell? ⟨b,off+j,none⟩=some (.string (zs.getD j ByteArray.empty))) :
 Calls Tryz.prog 59 #[.slice (some ⟨b,off,none⟩) n c] w fun e w'=>∃ v',e=.returned v'∧w'.ownsRow w.heap.size 9 1 v' n ((zs.take n).map (Value.string))∧v'≠.slice none 0 0∧Below w.heap.size w w':=Any.slices_Clone_string Tryz.laysNm216 b off n c zs w hz hbig hc
open Go.RowKit Go.Lib in
theorem Tryz.slices_Clone_string_nil (n c:Nat) (w:World) :
 Calls Tryz.prog 59 #[.slice none n c] w fun e w'=>e=.returned (.slice none 0 0)∧w'=w:=Any.slices_Clone_string_nil Tryz.laysNm216 n c w
open Go.RowKit Go.Lib in
theorem Tryz.slices_Clone_string_zero (a:Addr) (c:Nat) (w:World) :
 Calls Tryz.prog 59 #[.slice (some a) 0 c] w fun e w'=>∃ v',e=.returned v'∧w'.ownsRow w.heap.size 9 1 v' 0 []∧v'≠.slice none 0 0∧Below w.heap.size w w':=Any.slices_Clone_string_zero Tryz.laysNm216 a c w
def Tryz.lays194_ren:Go.Shelf.Ren:=⟨fun | 194=>106 | n=>n,fun | 31=>31 | 9=>9 | 3=>3 | 4=>4 | 0=>0 | n=>n,fun | n=>n⟩
theorem Tryz.lays194:Go.Proofs.Lays.n194 Tryz.prog Tryz.lays194_ren:={
 mixed:=by kernel_rfl
 f194:=Tryz.func106.trans (congrArg some (by kernel_rfl))
 t0:=Tryz.underlying0
 a0:=Tryz.isAgg0
 z0:=Tryz.sizeOf0
 v0:=Tryz.zeroValue0
 t3:=Tryz.underlying3
 a3:=Tryz.isAgg3
 z3:=Tryz.sizeOf3
 v3:=Tryz.zeroValue3
 t4:=Tryz.underlying4
 a4:=Tryz.isAgg4
 z4:=Tryz.sizeOf4
 v4:=Tryz.zeroValue4
 t9:=Tryz.underlying9
 a9:=Tryz.isAgg9
 z9:=Tryz.sizeOf9
 v9:=Tryz.zeroValue9
 t31:=Tryz.underlying31
 a31:=Tryz.isAgg31
 z31:=Tryz.sizeOf31
 v31:=Tryz.zeroValue31 }
open Go.RowKit Go.Lib Go.Sort in
theorem Tryz.slices_Compact_string (blk off cap:Nat) (zs:List (List UInt8)) (w:World) (hH:Holds encStr w blk off zs.toArray) (hsz:zs.length≤9223372036854775807) (hcap:zs.length≤cap) :
 Calls Tryz.prog 106 #[.slice (some ⟨blk,off,none⟩) zs.length cap] w fun e w'=>e=.returned (.slice (some ⟨blk,off,none⟩) (Lib.compact zs).length cap)∧∃ q,w'=putRow encStr (Sort.ahead w q) blk off (Lib.compact zs++List.replicate (zs.length - (Lib.compact zs).length) []).toArray:=Any.slices_Compact_string Tryz.lays194 blk off cap zs w hH hsz hcap
open Go.RowKit Go.Lib Go.Sort in
theorem Tryz.slices_Compact_string_empty (a:Option Addr) (cap:Nat) (w:World) :
 Calls Tryz.prog 106 #[.slice a 0 cap] w fun e w'=>e=.returned (.slice a 0 cap)∧w'=w:=Any.slices_Compact_string_empty Tryz.lays194 a cap w
def Tryz.laysNm225_ren:Go.Shelf.Ren:=⟨fun | 25=>46 | 31=>96 | 32=>97 | 37=>160 | n=>n,fun | 22=>49 | 3=>3 | 4=>4 | 40=>184 | 0=>0 | n=>n,fun | n=>n⟩
theorem Tryz.laysNm225:Go.Proofs.Lays2.n25 Tryz.prog Tryz.laysNm225_ren:={
 mixed:=by kernel_rfl
 f25:=Tryz.func46.trans (congrArg some (by kernel_rfl))
 f31:=Tryz.func96.trans (congrArg some (by kernel_rfl))
 f32:=Tryz.func97.trans (congrArg some (by kernel_rfl))
 f37:=Tryz.func160.trans (congrArg some (by kernel_rfl))
 t0:=Tryz.underlying0
 a0:=Tryz.isAgg0
 z0:=Tryz.sizeOf0
 v0:=Tryz.zeroValue0
 t3:=Tryz.underlying3
 a3:=Tryz.isAgg3
 z3:=Tryz.sizeOf3
 v3:=Tryz.zeroValue3
 t4:=Tryz.underlying4
 a4:=Tryz.isAgg4
 z4:=Tryz.sizeOf4
 v4:=Tryz.zeroValue4
 t22:=Tryz.underlying49
 a22:=Tryz.isAgg49
 z22:=Tryz.sizeOf49
 v22:=Tryz.zeroValue49
 t40:=Tryz.underlying184
 a40:=Tryz.isAgg184
 z40:=Tryz.sizeOf184
 v40:=Tryz.zeroValue184 }
open Go.RowKit Go.Lib in
theorem Tryz.slices_BinarySearch_int (b off n c:Nat) (zs:List Int) (x:Int) (w:World) (hz:n≤zs.length) (hbig:n < 4611686018427387904) (hc:∀ j,j < zs.length→w.cell? ⟨b,off+j,none⟩=some (.int .i64 (zs.getD j 0))) (hs:(zs.take n).Pairwise (·≤·)) :
 Calls Tryz.prog 46 #[.slice (some ⟨b,off,none⟩) n c,.int .i64 x] w fun e w'=>e=.returned (.tuple #[.int .i64 ((zs.take n).countP (· < x):Nat),.bool ((zs.take n).contains x)])∧∃ q,w'=w.drewN q:=Any.slices_BinarySearch_int Tryz.laysNm225 b off n c zs x w hz hbig hc hs
open Go.RowKit Go.Sort in
theorem Tryz.slices_Sort_string_none (p:Option Addr) (cap:Nat) (w:World) :
 Calls Tryz.prog 168 #[.slice p 0 cap] w fun e w'=>e=.returned (.tuple #[])∧w'=w:=Any.slices_Sort_string_none Tryz.lays190 p cap w
open Go.RowKit Go.Lib in
theorem Tryz.slices_BinarySearch_int_empty (a:Option Addr) (c:Nat) (x:Int) (w:World) :
 Calls Tryz.prog 46 #[.slice a 0 c,.int .i64 x] w fun e w'=>e=.returned (.tuple #[.int .i64 0,.bool false])∧w'=w:=Any.slices_BinarySearch_int_empty Tryz.laysNm225 a c x w
open Go.RowKit Go.Lib in
theorem Tryz.slices_Equal_string_lens (a1 a2:Option Addr) (n c m d:Nat) (w:World) (hnm:n≠m) :
 Calls Tryz.prog 210 #[.slice a1 n c,.slice a2 m d] w fun e w'=>e=.returned (.bool false)∧w'=w:=Any.slices_Equal_string_lens Tryz.lays193 a1 a2 n c m d w hnm
def Tryz.laysSlH8_f207_ren:Go.Shelf.Ren:=⟨fun | 8=>207 | 6=>174 | n=>n,fun | 22=>49 | 23=>3 | 25=>186 | 4=>4 | 3=>3 | 0=>0 | n=>n,fun | n=>n⟩
theorem Tryz.laysSlH8_f207:Go.Proofs.SlLaysH.n8 Tryz.prog Tryz.laysSlH8_f207_ren:={
 mixed:=by kernel_rfl
 f6:=⟨Tryz.f174.name,by decide,Tryz.func174.trans (congrArg some (by kernel_rfl))⟩
 f8:=⟨Tryz.f207.name,by decide,Tryz.func207.trans (congrArg some (by kernel_rfl))⟩
 t0:=Tryz.underlying0
 a0:=Tryz.isAgg0
 z0:=Tryz.sizeOf0
 v0:=Tryz.zeroValue0
 t3:=Tryz.underlying3
 a3:=Tryz.isAgg3
 z3:=Tryz.sizeOf3
 v3:=Tryz.zeroValue3
 t4:=Tryz.underlying4
 a4:=Tryz.isAgg4
 z4:=Tryz.sizeOf4
 v4:=Tryz.zeroValue4
 t22:=Tryz.underlying49
 a22:=Tryz.isAgg49
 z22:=Tryz.sizeOf49
 v22:=Tryz.zeroValue49
 a23:=Tryz.isAgg3
 z23:=Tryz.sizeOf3
 t25:=Tryz.underlying186
 a25:=Tryz.isAgg186
 z25:=Tryz.sizeOf186
 v25:=Tryz.zeroValue186 }
open Go.RowKit Go.Lib in
theorem Tryz.slices_ContainsFunc {α:Type} [Inhabited α] (enc:α→Value) (p:α→Bool) (g:Nat) (lb:Array Value) (eg:∀ args w,(callFunc g args).run Tryz.prog w=.ok (.enter g args) w) (b off n c:Nat) (zs:List α) (w:World) (hp:PredAt Tryz.prog g lb enc p w) (hz:n≤zs.length) (hbig:n≤9223372036854775807) (hc:∀ j,j < zs.length→w.cell? ⟨b,off+j,none⟩=some (enc zs[j]!)) :
 Calls Tryz.prog 207 #[.slice (some ⟨b,off,none⟩) n c,.func (.func g) #[] lb] w fun e w'=>e=.returned (.bool ((zs.take n).any p))∧∃ q,w'=w.drewN q:=AnyE.slices_ContainsFunc Tryz.laysSlH8_f207 enc p g lb eg b off n c zs w hp hz hbig hc
def Tryz.laysSlH10_f147_ren:Go.Shelf.Ren:=⟨fun | 10=>147 | 6=>198 | n=>n,fun | 22=>31 | 23=>9 | 25=>96 | 3=>3 | 4=>4 | 0=>0 | n=>n,fun | n=>n⟩
theorem Tryz.laysSlH10_f147:Go.Proofs.SlLaysH.n10 Tryz.prog Tryz.laysSlH10_f147_ren:={
 mixed:=by kernel_rfl
 f6:=⟨Tryz.f198.name,by decide,Tryz.func198.trans (congrArg some (by kernel_rfl))⟩
 f10:=⟨Tryz.f147.name,by decide,Tryz.func147.trans (congrArg some (by kernel_rfl))⟩
 t0:=Tryz.underlying0
 a0:=Tryz.isAgg0
 z0:=Tryz.sizeOf0
 v0:=Tryz.zeroValue0
 t3:=Tryz.underlying3
 a3:=Tryz.isAgg3
 z3:=Tryz.sizeOf3
 v3:=Tryz.zeroValue3
 t4:=Tryz.underlying4
 a4:=Tryz.isAgg4
 z4:=Tryz.sizeOf4
 v4:=Tryz.zeroValue4
 t22:=Tryz.underlying31
 a22:=Tryz.isAgg31
 z22:=Tryz.sizeOf31
 v22:=Tryz.zeroValue31
 a23:=Tryz.isAgg9
 z23:=Tryz.sizeOf9
 t25:=Tryz.underlying96
 a25:=Tryz.isAgg96
 z25:=Tryz.sizeOf96
 v25:=Tryz.zeroValue96 }
open Go.RowKit Go.Lib Go.Sort in
theorem Tryz.slices_DeleteFunc {α:Type} [Inhabited α] (enc:α→Value) (hO:OneCell enc) (p:α→Bool) (g:Nat) (lb:Array Value) (eg:∀ args w,(callFunc g args).run Tryz.prog w=.ok (.enter g args) w) (zr:α) (v23:∀ w,(zeroValue 9).run Tryz.prog w=.ok (enc zr) w) (blk off cap:Nat) (d:Array α) (w:World) (hp:PredAt Tryz.prog g lb enc p w) (hpo:PredOver Tryz.prog g lb enc p blk off d.size w) (hH:Holds enc w blk off d) (hsz:d.size≤9223372036854775807) (hcap:d.size≤cap) :
 Calls Tryz.prog 147 #[.slice (some ⟨blk,off,none⟩) d.size cap,.func (.func g) #[] lb] w fun e w'=>e=.returned (.slice (some ⟨blk,off,none⟩) (d.toList.filter fun x=>!p x).length cap)∧∃ q,w'=putRow enc (Sort.ahead w q) blk off ((d.toList.filter fun x=>!p x)++List.replicate (d.size - (d.toList.filter fun x=>!p x).length) zr).toArray:=AnyE.slices_DeleteFunc Tryz.laysSlH10_f147 enc hO p g lb eg zr v23 blk off cap d w hp hpo hH hsz hcap
def Tryz.sortedZ_ren:Go.Shelf.Ren:=⟨fun | 6=>104 | 8=>167 | 9=>168 | 11=>214 | 13=>216 | 12=>215 | 23=>242 | 24=>243 | 14=>233 | 15=>234 | 16=>235 | 17=>236 | 18=>237 | 19=>238 | 20=>239 | 21=>240 | 22=>241 | 25=>251 | 26=>252 | 27=>253 | 28=>254 | 29=>255 | 30=>246 | 31=>273 | n=>n,fun | 26=>9 | 28=>194 | 24=>31 | 0=>0 | 3=>3 | 37=>184 | 48=>248 | 50=>325 | 4=>4 | 40=>330 | 39=>329 | 45=>117 | 5=>5 | 9=>9 | 51=>344 | 55=>348 | 57=>362 | 58=>363 | 33=>96 | n=>n,fun | n=>n⟩
theorem Tryz.sortedZ:Go.Proofs.SlLaysZ.n6 Tryz.prog Tryz.sortedZ_ren:={
 mixed:=by kernel_rfl
 f6:=⟨Tryz.f104.name,by decide,Tryz.func104.trans (congrArg some (by kernel_rfl))⟩
 f8:=⟨Tryz.f167.name,by decide,Tryz.func167.trans (congrArg some (by kernel_rfl))⟩
 f11:=⟨Tryz.f214.name,by decide,Tryz.func214.trans (congrArg some (by kernel_rfl))⟩
 t0:=Tryz.underlying0
 a0:=Tryz.isAgg0
 z0:=Tryz.sizeOf0
 v0:=Tryz.zeroValue0
 t24:=Tryz.underlying31
 a24:=Tryz.isAgg31
 z24:=Tryz.sizeOf31
 v24:=Tryz.zeroValue31
 t26:=Tryz.underlying9
 a26:=Tryz.isAgg9
 z26:=Tryz.sizeOf9
 v26:=Tryz.zeroValue9
 t28:=Tryz.underlying194
 a28:=Tryz.isAgg194
 z28:=Tryz.sizeOf194
 v28:=Tryz.zeroValue194
 i26:=by kernel_rfl }
def Tryz.delZ_ren:Go.Shelf.Ren:=⟨fun | 10=>147 | 6=>198 | n=>n,fun | 22=>31 | 23=>9 | 25=>96 | 3=>3 | 4=>4 | 0=>0 | n=>n,fun | n=>n⟩
theorem Tryz.delZ:Go.Proofs.SlLaysH.n10 Tryz.prog Tryz.delZ_ren:={
 mixed:=by kernel_rfl
 f6:=⟨Tryz.f198.name,by decide,Tryz.func198.trans (congrArg some (by kernel_rfl))⟩
 f10:=⟨Tryz.f147.name,by decide,Tryz.func147.trans (congrArg some (by kernel_rfl))⟩
 t0:=Tryz.underlying0
 a0:=Tryz.isAgg0
 z0:=Tryz.sizeOf0
 v0:=Tryz.zeroValue0
 t3:=Tryz.underlying3
 a3:=Tryz.isAgg3
 z3:=Tryz.sizeOf3
 v3:=Tryz.zeroValue3
 t4:=Tryz.underlying4
 a4:=Tryz.isAgg4
 z4:=Tryz.sizeOf4
 v4:=Tryz.zeroValue4
 t22:=Tryz.underlying31
 a22:=Tryz.isAgg31
 z22:=Tryz.sizeOf31
 v22:=Tryz.zeroValue31
 a23:=Tryz.isAgg9
 z23:=Tryz.sizeOf9
 t25:=Tryz.underlying96
 a25:=Tryz.isAgg96
 z25:=Tryz.sizeOf96
 v25:=Tryz.zeroValue96 }
def Tryz.keysZ_ren:Go.Shelf.Ren:=⟨fun | 7=>146 | 10=>197 | n=>n,fun | 23=>75 | 26=>9 | 3=>85 | 28=>194 | 0=>0 | 27=>193 | 33=>96 | 4=>4 | n=>n,fun | n=>n⟩
theorem Tryz.keysZ:Go.Proofs.SlLaysZ.n7 Tryz.prog Tryz.keysZ_ren:={
 mixed:=by kernel_rfl
 f7:=⟨Tryz.f146.name,by decide,Tryz.func146.trans (congrArg some (by kernel_rfl))⟩
 f10:=⟨Tryz.f197.name,by decide,Tryz.func197.trans (congrArg some (by kernel_rfl))⟩
 t0:=Tryz.underlying0
 a0:=Tryz.isAgg0
 z0:=Tryz.sizeOf0
 v0:=Tryz.zeroValue0
 t4:=Tryz.underlying4
 a4:=Tryz.isAgg4
 z4:=Tryz.sizeOf4
 v4:=Tryz.zeroValue4
 t23:=Tryz.underlying75
 a23:=Tryz.isAgg75
 z23:=Tryz.sizeOf75
 v23:=Tryz.zeroValue75
 t26:=Tryz.underlying9
 a26:=Tryz.isAgg9
 z26:=Tryz.sizeOf9
 v26:=Tryz.zeroValue9
 t27:=Tryz.underlying193
 a27:=Tryz.isAgg193
 z27:=Tryz.sizeOf193
 v27:=Tryz.zeroValue193
 t28:=Tryz.underlying194
 a28:=Tryz.isAgg194
 z28:=Tryz.sizeOf194
 v28:=Tryz.zeroValue194
 t33:=Tryz.underlying96
 a33:=Tryz.isAgg96
 z33:=Tryz.sizeOf96
 v33:=Tryz.zeroValue96 }
def Tryz.keysZ1_ren:Go.Shelf.Ren:=⟨fun | 10=>197 | n=>n,fun | 33=>96 | 23=>75 | 0=>0 | 4=>4 | 26=>9 | 3=>85 | n=>n,fun | n=>n⟩
theorem Tryz.keysZ1:Go.Proofs.SlLaysZ.n10 Tryz.prog Tryz.keysZ1_ren:={
 mixed:=by kernel_rfl
 f10:=⟨Tryz.f197.name,by decide,Tryz.func197.trans (congrArg some (by kernel_rfl))⟩
 t0:=Tryz.underlying0
 a0:=Tryz.isAgg0
 z0:=Tryz.sizeOf0
 v0:=Tryz.zeroValue0
 t4:=Tryz.underlying4
 a4:=Tryz.isAgg4
 z4:=Tryz.sizeOf4
 v4:=Tryz.zeroValue4
 t23:=Tryz.underlying75
 a23:=Tryz.isAgg75
 z23:=Tryz.sizeOf75
 v23:=Tryz.zeroValue75
 t26:=Tryz.underlying9
 a26:=Tryz.isAgg9
 z26:=Tryz.sizeOf9
 v26:=Tryz.zeroValue9
 t33:=Tryz.underlying96
 a33:=Tryz.isAgg96
 z33:=Tryz.sizeOf96
 v33:=Tryz.zeroValue96 }
end Go.Proofs
namespace Go.Proofs.YtnoehodmmkioaaaGreatDoor.SegW
open Go.RowKit OctMath
def Tab (w:World):Prop:=Lib.TabIs Tryz.prog w "internal/strconv.uint64pow10" .u64 Lib.pow10Tab
theorem Tab.below {W w:World} (h:Tab W) (hb:Below W.heap.size W w):Tab w:=Lib.tabBelow_of_tabIs h w hb
theorem repeat_one (c:UInt8):∀ n,Lib.repeatL [c] n=List.replicate n c
 | 0=>rfl
 | n+1=>by show c :: Lib.repeatL [c] n=_; rw [repeat_one c n]; rfl
theorem itoa_any (n:Nat) (w:World) (ht:Tab w) (hn:n≤9223372036854775807) :
 Calls Tryz.prog 187 #[.int .i64 (n:Int)] w fun e w'=>e=.returned (.string (S (Lib.decDigits n)))∧Below w.heap.size w w':=by
 refine (Tryz.strconv_Itoa (n:Int) (by omega) (by omega) w ht).mono ?_
 rintro e w' ⟨rfl,k,os,rfl⟩
 rw [Lib.itoa_nonneg]
 exact ⟨rfl,⟨rfl,rfl,rfl,by simp [Go.Sort.grow,World.drewN],fun j hj=>Go.Sort.heap_grow_old _ os hj⟩⟩
theorem repeat_any (c:UInt8) (n:Nat) (w:World) (hn:n≤1073741824) :
 Calls Tryz.prog 165 #[.string (S [c]),.int .i64 (n:Int)] w fun e w'=>e=.returned (.string (S (List.replicate n c)))∧Below w.heap.size w w':=by
 refine (Tryz.strings_Repeat (S [c]) n w (by omega) (by rw [S_size]; simp; omega)).mono ?_
 rintro e w' ⟨rfl,hb⟩
 rw [S_list,repeat_one]
 exact ⟨rfl,hb⟩
def nameR (hd:List UInt8) (n:Int):List UInt8:=if 0≤n∧n≤99999999 then nameL hd n.toNat else []
theorem Name_any (hd:List UInt8) (n:Int) (w:World) (ht:Tab w) (hn : -9223372036854775808≤n∧n≤9223372036854775807) (hh:hd.length≤1073741824) :
 Calls Tryz.prog 195 #[.string (S hd),.int .i64 n] w fun e w'=>e=.returned (.tuple #[.string (S (nameR hd n)),.bool (decide (0≤n∧n≤99999999))])∧Below w.heap.size w w':=by
 have hsz:=S_size
 by_cases h:0≤n∧n≤99999999
 ·
  obtain ⟨u,rfl⟩:∃ u:Nat,n=(u:Int):=⟨n.toNat,by omega⟩
  have hu:u≤99999999:=by omega
  have HR:Hid (nameR hd (u:Int)=hd++padL u):=by unfold nameR; rw [if_pos h]; rfl
  rw [decide_eq_true h]
  have hdl:=dec_len u hu
  have c1:=Lib.hid (itoa_any u w ht (by omega))
  have HT:=Lib.hid ht
  have HP:Hid (padL u=List.replicate (8 - (Lib.decDigits u).length) 48++Lib.decDigits u):=rfl
  clear ht
  generalize Lib.decDigits u=ds at *
  generalize nameR hd (u:Int)=r at *
  go_enter Tryz.func195,Tryz.ntmps195
  go_wp2_with fail
  refine c1.out.mono ?_
  rintro e w2 ⟨rfl,hb⟩
  have HB:=Lib.hid hb
  have c2:=Lib.hid (repeat_any 48 (8 - ds.length) w2 (by omega))
  rw [show ((8 - ds.length:Nat):Int)=8 - (ds.length:Int) by omega] at c2
  clear hb c1
  go_wp2_with fail
  refine c2.out.mono ?_
  rintro e w3 ⟨rfl,hb⟩
  have HB2:=Lib.hid hb
  clear hb c2
  go_wp2_with fail
  go_ret2
  rw [HR.out,HP.out,S_append,S_append,List.append_assoc]
  exact ⟨rfl,HB.out.trans (HB2.out.mono HB.out.size)⟩
 ·
  have HR:Hid (nameR hd n=[]):=by unfold nameR; rw [if_neg h]; rfl
  rw [decide_eq_false h]
  have hor:n < 0∨99999999 < n:=by omega
  clear ht
  generalize nameR hd n=r at *
  rcases hor with h1 | h1
  iterate 2
   · go_enter Tryz.func195,Tryz.ntmps195
     go_wp2_with fail
     go_ret2
     rw [HR.out]
     exact ⟨rfl,Below.refl _ _⟩
theorem trim_any (l:List UInt8) (w:World) (hl:l.length≤1073741824) :
 Calls Tryz.prog 244 #[.string (S l),.string (S digs)] w fun e w'=>e=.returned (.string (S (Lib.trimS l digs)))∧Below w.heap.size w w':=by
 have h:=Any.strings_Trim_laid Tryz.lays160 (by kernel_rfl) (S l) (S digs) w (by rw [S_size]; omega) (by rw [S_size]; decide) (ascii_of_all (by rw [S_list]; decide))
 rw [S_list,S_list] at h
 exact h
theorem cutPrefix_any (l p:List UInt8) (w:World) :
 Calls Tryz.prog 101 #[.string (S l),.string (S p)] w fun e w'=>e=.returned (.tuple #[.string (S (Lib.trimPrefix l p)),.bool (Lib.hasPrefix l p)])∧w'=w:=by
 have h:=Tryz.strings_CutPrefix (S l) (S p) w
 rw [S_list,S_list] at h
 exact h
theorem atoi_any (l:List UInt8) (h0:l≠[]) (h8:l.length≤8) (h:∀ c∈l,dig c=true) (w:World) :
 Calls Tryz.prog 245 #[.string (S l)] w fun e w'=>e=.returned (.tuple #[.int .i64 (numL l:Int),.nilIface])∧Below w.heap.size w w':=by
 refine (Tryz.strconv_Atoi_ok (S l) (by rw [S_size]; omega) (numL l) (by rw [S_list]; exact atoi_num l h0 h8 h) w).mono ?_
 rintro e w' ⟨rfl,hw⟩
 refine ⟨rfl,?_⟩
 rcases hw with rfl | ⟨t,rfl⟩
 · exact Below.refl _ _
 · exact Lib.bytesWorld_below _ _ _
def optN:Option Nat→Int
 | some n=>(n:Int)
 | none=>0
theorem Place_any (hd nm:List UInt8) (w:World) (hn:nm.length≤1073741824) :
 Calls Tryz.prog 217 #[.string (S hd),.string (S nm)] w fun e w'=>e=.returned (.tuple #[.int .i64 (optN (placeL hd nm)),.bool (placeL hd nm).isSome])∧Below w.heap.size w w':=by
 have hsz:=S_size
 have c1:=Lib.hid (cutPrefix_any nm hd w)
 obtain ⟨r,HR⟩:∃ r,Hid (r=placeL hd nm):=⟨_,rfl⟩
 rw [← HR.out]
 by_cases h1:Lib.hasPrefix nm hd=true
 ·
  have ht:Lib.trimPrefix nm hd=nm.drop hd.length:=by unfold Lib.trimPrefix; rw [if_pos h1]
  rw [h1,ht] at c1
  have HX:Hid (placeL hd nm=if (nm.drop hd.length).length=8∧∀ c∈nm.drop hd.length,dig c=true then some (numL (nm.drop hd.length)) else none):=by
   show _=_
   unfold placeL
   simp only [h1,true_and]
  have hl:(nm.drop hd.length).length≤1073741824:=by rw [List.length_drop]; omega
  rw [← HR.out] at HX
  clear h1 ht HR hn
  generalize nm.drop hd.length=d at *
  by_cases h8:d.length=8
  ·
   have c2:=Lib.hid (trim_any d w hl)
   by_cases hdg:∀ c∈d,dig c=true
   ·
    rw [(trim_digs d).2 hdg] at c2
    have hrx:r=some (numL d):=by rw [HX.out,if_pos ⟨h8,hdg⟩]
    subst hrx
    have hdn:d≠[]:=by intro e; rw [e] at h8; cases h8
    have HAT:Hid (∀ W:World,Calls Tryz.prog 245 #[.string (S d)] W fun e w'=>e=.returned (.tuple #[.int .i64 (numL d:Int),.nilIface])∧Below W.heap.size W w'):=fun W=>atoi_any d hdn (by omega) hdg W
    clear hdg HX hdn
    have hem:(S []).toList.isEmpty=true:=by rw [ByteArray.toList_eq,S_list]; rfl
    show Calls _ _ _ _ fun e w'=>e=.returned (.tuple #[.int .i64 (numL d:Int),.bool true])∧_
    generalize numL d=n at *
    go_enter Tryz.func217,Tryz.ntmps217
    go_wp2_with fail
    refine c1.out.mono ?_
    rintro e w' ⟨rfl,rfl⟩
    go_wp2_with fail
    refine c2.out.mono ?_
    rintro e w3 ⟨rfl,hb⟩
    have HB:=Lib.hid hb
    clear hb c2 c1
    go_wp2_with fail
    refine (HAT.out w3).mono ?_
    rintro e w4 ⟨rfl,hb⟩
    have HB2:=Lib.hid hb
    clear hb HAT
    go_wp2_with fail
    go_ret2
    exact ⟨rfl,HB.out.trans (HB2.out.mono HB.out.size)⟩
   ·
    have hrx:r=none:=by rw [HX.out,if_neg (fun h=>hdg h.2)]
    subst hrx
    have htn:(Lib.trimS d digs).length≠0:=by intro e; exact hdg ((trim_digs d).1 (List.length_eq_zero_iff.1 e))
    have hem:(S (Lib.trimS d digs)).toList.isEmpty=false:=by
     rw [ByteArray.toList_eq,S_list]
     cases hh:Lib.trimS d digs with
     | nil=>rw [hh] at htn; exact absurd rfl htn
     | cons _ _=>rfl
    clear hdg HX
    show Calls _ _ _ _ fun e w'=>e=.returned (.tuple #[.int .i64 0,.bool false])∧_
    generalize Lib.trimS d digs=y at *
    go_enter Tryz.func217,Tryz.ntmps217
    go_wp2_with fail
    refine c1.out.mono ?_
    rintro e w' ⟨rfl,rfl⟩
    go_wp2_with fail
    refine c2.out.mono ?_
    rintro e w3 ⟨rfl,hb⟩
    have HB:=Lib.hid hb
    clear hb c2 c1
    go_wp2_with fail
    go_ret2
    exact ⟨rfl,HB.out⟩
  ·
   have hrx:r=none:=by rw [HX.out,if_neg (fun h=>h8 h.1)]
   subst hrx
   clear HX
   show Calls _ _ _ _ fun e w'=>e=.returned (.tuple #[.int .i64 0,.bool false])∧_
   have h8i:¬ (d.length:Int)=8:=by omega
   go_enter Tryz.func217,Tryz.ntmps217
   go_wp2_with fail
   refine c1.out.mono ?_
   rintro e w' ⟨rfl,rfl⟩
   go_wp2_with fail
   go_ret2
   exact ⟨rfl,Below.refl _ _⟩
 ·
  rw [Bool.not_eq_true] at h1
  have hrx:r=none:=by rw [HR.out]; unfold placeL; rw [if_neg (fun h=>by rw [h1] at h; cases h.1)]
  subst hrx
  rw [h1] at c1
  clear h1 HR
  show Calls _ _ _ _ fun e w'=>e=.returned (.tuple #[.int .i64 0,.bool false])∧_
  generalize Lib.trimPrefix nm hd=y at *
  go_enter Tryz.func217,Tryz.ntmps217
  go_wp2_with fail
  refine c1.out.mono ?_
  rintro e w' ⟨rfl,rfl⟩
  go_wp2_with fail
  go_ret2
  exact ⟨rfl,Below.refl _ _⟩
end Go.Proofs.YtnoehodmmkioaaaGreatDoor.SegW
namespace Go.Proofs.YtnoehodmmkioaaaGreatDoor
open Go.RowKit
def Row1 (w:World) (a:Option Addr) (vs:List Value):Prop:=∀ i (h:i < vs.length),∃ b off,a=some ⟨b,off,none⟩∧w.cell? ⟨b,off+i,none⟩=some vs[i]
theorem Row1.below {W w:World} {a:Option Addr} {vs:List Value} (h:Row1 W a vs) (hb:Below W.heap.size W w):Row1 w a vs:=by
 intro i hi
 obtain ⟨b,off,rfl,hc⟩:=h i hi
 exact ⟨b,off,rfl,by rw [hb.cell (cell_lt hc)]; exact hc⟩
theorem Row1.mod {M:Nat→Prop} {W w:World} {a:Option Addr} {vs:List Value} (h:Row1 W a vs) (hb:Mod M W w) (hM:∀ ad,a=some ad→¬ M ad.block):Row1 w a vs:=by
 intro i hi
 obtain ⟨b,off,rfl,hc⟩:=h i hi
 exact ⟨b,off,rfl,by rw [hb.cell (p:=⟨b,off+i,none⟩) (cell_lt hc) (show ¬ M b from hM ⟨b,off,none⟩ rfl)]; exact hc⟩
theorem Row1.of_strs {w:World} {a:Option Addr} {ss:List ByteArray} (h:Strs w a ss):Row1 w a (ss.map .string):=by
 intro i hi
 obtain ⟨b,off,rfl,hc⟩:=h i (by simpa using hi)
 exact ⟨b,off,rfl,by rw [hc,List.getElem_map]⟩
theorem Row1.to_strs {w:World} {a:Option Addr} {ss:List ByteArray} (h:Row1 w a (ss.map .string)):Strs w a ss:=by
 intro i hi
 obtain ⟨b,off,rfl,hc⟩:=h i (by simpa using hi)
 exact ⟨b,off,rfl,by rw [hc,List.getElem_map]⟩
theorem Row1.of_own {w:World} {base n:Nat} {e:TypeId} {v:Value} {xs:List Value} (h:w.ownsRow base e 1 v n xs):∃ a cap,v=.slice a n cap∧Row1 w a xs∧xs.length=n:=by
 obtain ⟨hl,h⟩:=h
 rcases h with ⟨rfl,h0⟩ | ⟨g,cap,cur,rfl,hb,hg,hc1,hc2,hcs,hcur⟩
 · exact ⟨none,0,by rw [h0],fun i hi=>by omega,by omega⟩
 ·
  refine ⟨some ⟨g,0,none⟩,cap,rfl,fun i hi=>⟨g,0,rfl,?_⟩,by omega⟩
  unfold World.cell?
  rw [hg]
  have:cur[0+i]?=(cur.toList.take (n * 1))[i]?:=by
   rw [List.getElem?_take,if_pos (by omega)]; simp
  simp only [this,hcur]
  simp [hi]
section
variable {P:Program} {w:World}
end
theorem ownBlock_of_own {w:World} {base n:Nat} {e:TypeId} {sz:Nat} {v:Value} {xs:List Value} (h:w.ownsRow base e sz v n xs):∀ g,v.ownBlock=some g→base≤g:=by
 intro g hg
 rcases h.2 with ⟨rfl,_⟩ | ⟨g',cap,cur,rfl,hb,_⟩
 · cases hg
 · cases hg; exact hb
end Go.Proofs.YtnoehodmmkioaaaGreatDoor
namespace Go.Proofs.YtnoehodmmkioaaaGreatDoor.DskW
open Go.RowKit Go.MapKept OctMath
structure FileD where
 blk:Nat
 img:List UInt8
 now:List UInt8
structure WriteD where
 blk:Nat
 pos:Nat
 txt:List UInt8
def WriteD.cells (x:WriteD):List Value:=[.pointer (some ⟨x.blk,0,none⟩),.int .i64 (x.pos:Int),.string (S x.txt)]
def waitsL (l:List WriteD):List Value:=l.flatMap WriteD.cells
theorem waitsL_length (l:List WriteD):(waitsL l).length=l.length * 3:=by
 induction l with
 | nil=>rfl
 | cons x l ih =>
   show (x.cells++waitsL l).length=_
   rw [List.length_append,ih,List.length_cons]; show 3+_=_; omega
structure DiskD where
 blk:Nat
 left:Int
 down:Bool
 mB:Nat
 files:List (List UInt8×FileD)
 wv:Value
 waits:List WriteD
 cap:Int
def DiskD.foot (D:DiskD) (k:Nat):Prop:=k=D.blk∨k=D.mB∨(∃ p∈D.files,k=p.2.blk)∨D.wv.ownBlock=some k
def DiskD.head (D:DiskD):Array Value:=#[.int .i64 D.left,.bool D.down,.map (some D.mB),D.wv,.int .i64 D.cap]
def FileD.cells (f:FileD):Array Value:=#[.string (S f.img),.string (S f.now)]
def sizeL (l:List (List UInt8×FileD)):Nat:=(l.map fun p=>p.2.now.length).sum
def DiskD.size (D:DiskD):Nat:=sizeL D.files
structure DiskAt (base:Nat) (w:World) (D:DiskD):Prop where
 head:w.heap[D.blk]?=some (.cells D.head 78 (0,0))
 map:∃ es c,w.heap[D.mB]?=some (.map es c)∧Stamped es c∧es.toList.map (fun e=>(e.key,e.val))=D.files.map (fun p=>(.string (S p.1),.pointer (some ⟨p.2.blk,0,none⟩)))
 file:∀ p∈D.files,w.heap[p.2.blk]?=some (.cells p.2.cells 87 (0,0))
 row:w.ownsRow base 281 3 D.wv D.waits.length (waitsL D.waits)
 names:(D.files.map (·.1)).Nodup
 blocks:(D.files.map (·.2.blk)).Nodup
 apart:D.blk≠D.mB∧(∀ p∈D.files,p.2.blk≠D.blk∧p.2.blk≠D.mB)∧∀ k,D.wv.ownBlock=some k→k≠D.blk∧k≠D.mB∧∀ p∈D.files,k≠p.2.blk
 above:base≤D.blk∧base≤D.mB∧∀ p∈D.files,base≤p.2.blk
 ints : -1≤D.left∧D.left≤9223372036854775807∧0≤D.cap∧D.cap≤16777216
 fits:(D.size:Int)≤D.cap
 waitf:∀ x∈D.waits,∃ p∈D.files,p.2.blk=x.blk
theorem DiskAt.lt {base:Nat} {w:World} {D:DiskD} (h:DiskAt base w D) {k:Nat} (hk:D.foot k):k < w.heap.size:=by
 rcases hk with rfl | rfl | ⟨p,hp,rfl⟩ | hk
 · exact (Array.getElem?_eq_some_iff.1 h.head).1
 · obtain ⟨es,c,h1,_⟩:=h.map; exact (Array.getElem?_eq_some_iff.1 h1).1
 · exact (Array.getElem?_eq_some_iff.1 (h.file p hp)).1
 · rcases h.row.2 with ⟨e,_⟩ | ⟨g,cap,cur,e,_,hg,_⟩
   · rw [e] at hk; cases hk
   · rw [e] at hk; cases hk; exact (Array.getElem?_eq_some_iff.1 hg).1
theorem DiskAt.base_le {base:Nat} {w:World} {D:DiskD} (h:DiskAt base w D) {k:Nat} (hk:D.foot k):base≤k:=by
 rcases hk with rfl | rfl | ⟨p,hp,rfl⟩ | hk
 · exact h.above.1
 · exact h.above.2.1
 · exact h.above.2.2 p hp
 · exact ownBlock_of_own h.row k hk
theorem DiskAt.mod {base:Nat} {w w':World} {D:DiskD} {M:Nat→Prop} (h:DiskAt base w D) (hm:Mod M w w') (hM:∀ k,D.foot k→¬ M k):DiskAt base w' D:=by
 have key:∀ k,D.foot k→w'.heap[k]?=w.heap[k]?:=fun k hk=>hm.block k (h.lt hk) (hM k hk)
 obtain ⟨es,c,m1,m2,m3⟩:=h.map
 refine ⟨(key _ (.inl rfl)).trans h.head,⟨es,c,(key _ (.inr (.inl rfl))).trans m1,m2,m3⟩,fun p hp=>(key _ (.inr (.inr (.inl ⟨p,hp,rfl⟩)))).trans (h.file p hp),?_,h.names,h.blocks,h.apart,h.above,h.ints,h.fits,h.waitf⟩
 refine ⟨h.row.1,?_⟩
 rcases h.row.2 with h0 | ⟨g,cap,cur,e,hb,hg,r⟩
 · exact .inl h0
 · exact .inr ⟨g,cap,cur,e,hb,(key g (.inr (.inr (.inr (by rw [e]; rfl))))).trans hg,r⟩
theorem DiskAt.below {base:Nat} {w w':World} {D:DiskD} (h:DiskAt base w D) (hb:Below w.heap.size w w'):DiskAt base w' D :=
 h.mod (M:=fun _=>False) (Mod.of_below hb) (fun _ _ h=>h)
/-! what the calls make of it -/
def DiskD.find (D:DiskD) (n:List UInt8):Option FileD:=(D.files.find? fun p=>p.1 == n).map (·.2)
def DiskD.burn (D:DiskD):DiskD:=if D.left=0 then { D with left := -1,down:=true } else if 0 < D.left then { D with left:=D.left - 1 } else D
def DiskD.bars (D:DiskD) (ns:List (List UInt8)):Int:=if D.down then 8 else if ns.all fun n=>(D.find n).isSome then 0 else 9
theorem S_inj {a b:List UInt8} (h:S a=S b):a=b:=by
 have:=congrArg (fun x:ByteArray=>x.data.toList) h
 simpa [S] using this
def fileV (f:Option FileD):Value:=.pointer (f.map fun f=>⟨f.blk,0,none⟩)
theorem run_zero {P:Program} {t:TypeId} {i:TypeInfo} {z:Value} {w:World} (hi:P.info? t=some i) (hz:i.zero=some z):(zeroValue t).run P w=.ok z w:=by
 simp [zeroValue,typeInfo,hi,hz]
theorem lookup_file {base:Nat} {w:World} {D:DiskD} (h:DiskAt base w D) (n:List UInt8) :
 (Instr.lookup 75 (.map (some D.mB)) (.string (S n)) false).run Tryz.prog w=.ok (fileV (D.find n)) w:=by
 obtain ⟨es,c,hb,hst,hmap⟩:=h.map
 have hm:=Tryz.underlying75
 have hd:=Tryz.underlying9
 have hks:∀ x∈es.toList,IsKey .string x.key:=fun x hx=>by
  have:(x.key,x.val)∈D.files.map (fun p=>(Value.string (S p.1),Value.pointer (some ⟨p.2.blk,0,none⟩))):=by rw [← hmap]; exact List.mem_map.2 ⟨x,hx,rfl⟩
  obtain ⟨p,_,hp⟩:=List.mem_map.1 this
  have:x.key=.string (S p.1):=(Prod.mk.inj hp).1.symm
  rw [this]; trivial
 have hk:IsKey .string (.string (S n)):=trivial
 obtain ⟨i0,hi0,hz0⟩:∃ i,Tryz.prog.info? 85=some i∧i.zero=some (.pointer none):=by
  have:=(show (Tryz.prog.info? 85).map (fun i=>i.zero)=some (some (.pointer none)) by kernel_rfl)
  cases hh:Tryz.prog.info? 85 with
  | none=>rw [hh] at this; cases this
  | some i=>rw [hh] at this; exact ⟨i,rfl,Option.some.inj this⟩
 have hzr:=run_zero (w:=w) hi0 hz0
 have hfind:∀ (l:List (List UInt8×FileD)) (el:List MapEntry),el.map (fun e:MapEntry=>(e.key,e.val))=l.map (fun p=>(Value.string (S p.1),Value.pointer (some ⟨p.2.blk,0,none⟩))) →
  ((∀ x∈el,x.key≠.string (S n))→l.find? (fun p=>p.1 == n)=none) ∧
  ∀ (j:Nat) (e:MapEntry),el[j]?=some e→e.key=.string (S n)→(l.map (·.1)).Nodup→∃ p,l.find? (fun p=>p.1 == n)=some p∧e.val=.pointer (some ⟨p.2.blk,0,none⟩):=by
  intro l
  induction l with
  | nil=>intro el hel; cases el with
    | nil=>exact ⟨fun _=>rfl,fun j e he=>by cases he⟩
    | cons x el=>cases hel
  | cons p l ih =>
    intro el hel
    cases el with
    | nil=>cases hel
    | cons x el =>
      simp only [List.map_cons,List.cons.injEq,Prod.mk.injEq] at hel
      obtain ⟨⟨hx1,hx2⟩,hel⟩:=hel
      obtain ⟨ih1,ih2⟩:=ih el hel
      constructor
      · intro hn
        have h1:(p.1 == n)=false:=by
         rw [beq_eq_false_iff_ne]; intro e; exact hn x (.head _) (by rw [hx1,e])
        rw [List.find?_cons,h1]
        exact ih1 fun y hy=>hn y (.tail _ hy)
      ·
       intro j e he hek hnd
       simp only [List.map_cons,List.nodup_cons] at hnd
       cases j with
       | zero =>
         simp only [List.getElem?_cons_zero,Option.some.injEq] at he
         subst he
         have:p.1=n:=S_inj (by rw [hx1] at hek; cases hek; rfl)
         refine ⟨p,by rw [List.find?_cons,show (p.1 == n)=true from by simp [this]],hx2⟩
       | succ j =>
         simp only [List.getElem?_cons_succ] at he
         have hmem:n∈l.map (·.1):=by
          have:(e.key,e.val)∈l.map (fun p=>(Value.string (S p.1),Value.pointer (some ⟨p.2.blk,0,none⟩))):=by rw [← hel]; exact List.mem_map.2 ⟨e,List.mem_of_getElem? he,rfl⟩
          obtain ⟨q,hq,hqe⟩:=List.mem_map.1 this
          have h2:=(Prod.mk.inj hqe).1
          rw [hek] at h2
          have:q.1=n:=S_inj (by cases h2; rfl)
          exact List.mem_map.2 ⟨q,hq,this⟩
         have h1:(p.1 == n)=false:=by
          rw [beq_eq_false_iff_ne]; intro e'; exact hnd.1 (e' ▸ hmem)
         rw [List.find?_cons,h1]
         exact ih2 j e he hek hnd.2
 have hF:=hfind D.files es.toList hmap
 rcases findNow_spec hk es.toList 0 hks with ⟨h1,h2⟩ | ⟨j,e,h1,h2,h3⟩
 · have:=hF.1 h2
   simp [Instr.lookup,run_underlying hm,Go.MapKept.run_getObj_map hb,Go.MapKept.run_checkKey hd hk,Go.MapKept.run_findKey hd h1,Result.andThen,hzr,DiskD.find,this,fileV]
 · obtain ⟨p,hp,hv⟩:=hF.2 j e h2 h3 h.names
   simp [Instr.lookup,run_underlying hm,Go.MapKept.run_getObj_map hb,Go.MapKept.run_checkKey hd hk,Go.MapKept.run_findKey hd h1,Result.andThen,DiskD.find,hp,hv,fileV]
theorem DiskAt.cell {base:Nat} {w:World} {D:DiskD} (h:DiskAt base w D) (i:Nat) (v:Value) (hv:D.head[i]?=some v):w.cell? ⟨D.blk,i,none⟩=some v:=by
 unfold World.cell?; rw [show w.heap[(⟨D.blk,i,none⟩:Addr).block]?=_ from h.head]; exact hv
theorem DiskAt.frozen {base:Nat} {w:World} {D:DiskD} (h:DiskAt base w D) (i:Nat):w.frozen? ⟨D.blk,i,none⟩=false:=by
 unfold World.frozen?; rw [show w.heap[(⟨D.blk,i,none⟩:Addr).block]?=_ from h.head]; rfl
theorem new_disk (base:Nat) (w:World) (hb:base≤w.heap.size) (cap:Int) (hc:0≤cap∧cap≤16777216) :
 DiskAt base ((w.alloc (.map #[] 0)).alloc (.cells #[.int .i64 (-1),.bool false,.map (some w.heap.size),.slice none 0 0,.int .i64 cap] 78)) ⟨w.heap.size+1,-1,false,w.heap.size,[],.slice none 0 0,[],cap⟩:=by
 have hs:(w.alloc (.map #[] 0)).heap.size=w.heap.size+1:=World.size_alloc _ _
 refine ⟨?_,⟨#[],0,?_,stamped_empty 0,rfl⟩,fun p hp=>(by cases hp),⟨rfl,.inl ⟨rfl,rfl⟩⟩,List.nodup_nil,List.nodup_nil,⟨by show w.heap.size+1≠w.heap.size; omega,fun p hp=>(by cases hp),fun k hk=>(by cases hk)⟩,⟨by show base≤w.heap.size+1; omega,hb,fun p hp=>(by cases hp)⟩,⟨by show (-1:Int) ≤ -1; omega,by show (-1:Int)≤_; omega,hc.1,hc.2⟩,hc.1,fun x hx=>(by cases hx)⟩
 · show _[w.heap.size+1]?=_
   rw [← hs]; exact heap_alloc_new _ _
 · show _[w.heap.size]?=_
   rw [Below.heap_alloc _ _ _ (by rw [hs]; omega)]; exact heap_alloc_new _ _
theorem new_any (c:Int) (base:Nat) (w:World) (hb:base≤w.heap.size) :
 Calls Tryz.prog 7 #[.int .i64 c] w fun e w'=>∃ D,e=.returned (.pointer (some ⟨D.blk,0,none⟩))∧DiskAt base w' D∧Below w.heap.size w w'∧w.heap.size≤D.blk∧w.heap.size≤D.mB ∧
  D.left = -1∧D.down=false∧D.files=[]∧D.waits=[]∧D.wv=.slice none 0 0∧D.cap=min (max c 0) 16777216:=by
 have hmk:∀ w:World,(Instr.makeMap 75 none).run Tryz.prog w=.ok (.map (some w.heap.size)) (w.alloc (.map #[] 0)):=fun _=>rfl
 have hbel:∀ o,Below w.heap.size w ((w.alloc (.map #[] 0)).alloc o):=fun o=>((Below.refl _ _).alloc (Nat.le_refl _) _).alloc (by simp) _
 have hnd:=new_disk base w hb
 have HB:=Lib.hid hbel
 have HN:=Lib.hid hnd
 clear hbel hnd hb
 go_enter Tryz.func7,Tryz.ntmps7
 go_wp2_with fail
 all_goals
  go_ret
  refine ⟨_,rfl,HN.out _ (by omega),HB.out _,by simp,Nat.le_refl _,rfl,rfl,rfl,rfl,rfl,?_⟩
  first | (dsimp only; done) | (dsimp only; omega)
theorem down_any {base:Nat} {D:DiskD} (w:World) (h:DiskAt base w D) :
 Calls Tryz.prog 107 #[.pointer (some ⟨D.blk,0,none⟩)] w fun e w'=>e=.returned (.bool D.down)∧w'=w:=by
 have c1:w.cell? ⟨D.blk,1,none⟩=some (.bool D.down):=h.cell 1 _ rfl
 clear h
 go_enter Tryz.func107,Tryz.ntmps107
 go_wp2_with fail
 go_ret
 exact ⟨rfl,rfl⟩
theorem bars_any {base:Nat} {D:DiskD} (a:Option Addr) (cap:Nat) (ns:List (List UInt8)) (hns:ns.length≤1048576) (w:World) (h:DiskAt base w D) (hr:Row1 w a (ns.map fun x=>.string (S x))) :
 Calls Tryz.prog 150 #[.pointer (some ⟨D.blk,0,none⟩),.slice a ns.length cap] w fun e w'=>e=.returned (.int .i64 (D.bars ns))∧w'=w:=by
 have c1:w.cell? ⟨D.blk,1,none⟩=some (.bool D.down):=h.cell 1 _ rfl
 have c2:w.cell? ⟨D.blk,2,none⟩=some (.map (some D.mB)):=h.cell 2 _ rfl
 have HL:=Lib.hid (fun n=>lookup_file h n)
 have HH:=Lib.hid hr
 have HB:Hid (D.bars ns=if D.down then 8 else if ns.all fun n=>(D.find n).isSome then 0 else 9):=rfl
 clear h hr
 generalize D.down=dn at *
 cases dn
 ·
  go_enter Tryz.func150,Tryz.ntmps150
  go_wp2_with fail
  go_loopw [18] (fun i wr=>∃ k:Nat,k≤ns.length∧i=.int .i64 (k:Int)∧Hid ((ns.take k).all fun n=>(D.find n).isSome)∧wr=w) (fun i _=>ns.length+1 - (intOf i).toNat)
  case atStart=>exact ⟨0,by omega,rfl,rfl,rfl⟩
  case round =>
   obtain ⟨k,hk,rfl,HA,rfl⟩:=hrel
   by_cases hlt:k < ns.length
   ·
    obtain ⟨b,off,hbo,hcell⟩:=HH.out k (by rw [List.length_map]; exact hlt)
    rw [List.getElem_map] at hcell
    have hlk:=HL.out ns[k]
    have hst:(ns.take (k+1)).all (fun n=>(D.find n).isSome)=((ns.take k).all (fun n=>(D.find n).isSome) && (D.find ns[k]).isSome):=by
     rw [List.take_succ_eq_append_getElem hlt,List.all_append]; simp
    have hno:(D.find ns[k]).isSome=false→(ns.all fun n=>(D.find n).isSome)=false:=fun h=>by
     rw [List.all_eq_false]; exact ⟨ns[k],List.getElem_mem hlt,by rw [h]; simp⟩
    have HST:=Lib.hid hst
    have HNO:=Lib.hid hno
    clear hst hno
    generalize ns[k]=x at *
    generalize D.find x=f at *
    rw [hbo] at *
    cases f with
    | none =>
      have HT:Hid (D.bars ns=9):=by show _=_; rw [HB.out,HNO.out rfl]; rfl
      clear HST HNO HB
      unfold fileV at hlk
      simp only [Option.map_none] at hlk
      go_wp2_with fail
      go_ret
      rw [HT.out]
      exact ⟨rfl,rfl⟩
    | some f =>
      have HA2:Hid ((ns.take (k+1)).all (fun n=>(D.find n).isSome)=true):=by show _=_; rw [HST.out,HA.out]; rfl
      clear HST HNO HA
      unfold fileV at hlk
      simp only [Option.map_some] at hlk
      go_wp2_with fail
      go_roundw
      case rel=>exact ⟨k+1,by omega,by go_num,HA2,trivial⟩
      case measure=>simp [intOf]; omega
   ·
    obtain rfl:k=ns.length:=by omega
    rw [List.take_length] at HA
    have HT:Hid (D.bars ns=0):=by show _=_; rw [HB.out,HA.out]; rfl
    clear HB
    go_wp2_with fail
    go_ret
    rw [HT.out]
    exact ⟨rfl,rfl⟩
 ·
  go_enter Tryz.func150,Tryz.ntmps150
  go_wp2_with fail
  go_ret
  rw [HB.out]
  exact ⟨rfl,rfl⟩
theorem DiskAt.rehead {base:Nat} {w w':World} {D:DiskD} (h:DiskAt base w D) (l:Int) (d:Bool) (hl : -1≤l∧l≤9223372036854775807) (hm:Mod (fun k=>k=D.blk) w w')
 (hh:w'.heap[D.blk]?=some (.cells ({ D with left:=l,down:=d }:DiskD).head 78 (0,0))):DiskAt base w' { D with left:=l,down:=d }:=by
 have key:∀ k,D.foot k→k≠D.blk→w'.heap[k]?=w.heap[k]?:=fun k hk hne=>hm.block k (h.lt hk) hne
 obtain ⟨es,c,m1,m2,m3⟩:=h.map
 refine ⟨hh,⟨es,c,(key _ (.inr (.inl rfl)) (fun e=>h.apart.1 e.symm)).trans m1,m2,m3⟩,fun p hp=>(key _ (.inr (.inr (.inl ⟨p,hp,rfl⟩))) (h.apart.2.1 p hp).1).trans (h.file p hp),?_,h.names,h.blocks,h.apart,h.above,⟨hl.1,hl.2,h.ints.2.2⟩,h.fits,h.waitf⟩
 refine ⟨h.row.1,?_⟩
 rcases h.row.2 with h0 | ⟨g,cap,cur,e,hb,hg,r⟩
 · exact .inl h0
 · have hown:D.wv.ownBlock=some g:=by rw [e]; rfl
   exact .inr ⟨g,cap,cur,e,hb,(key g (.inr (.inr (.inr hown))) (h.apart.2.2 g hown).1).trans hg,r⟩
theorem heap_set1 {w:World} {B i:Nat} {cs:Array Value} {ty:TypeId} (h:w.heap[B]?=some (.cells cs ty (0,0))) (v:Value) {cs':Array Value} (he:cs.setIfInBounds i v=cs') :
 (w.setCell ⟨B,i,none⟩ v).heap[B]?=some (.cells cs' ty (0,0)):=by rw [← he]; exact heap_setCell_same w B i cs ty v h
theorem mod_set (w:World) (B i:Nat) (v:Value):Mod (fun k=>k=B) w (w.setCell ⟨B,i,none⟩ v):=(Mod.refl (fun k=>k=B) w).setCell (a:=⟨B,i,none⟩) (.inl rfl) v
theorem burn_any {base:Nat} {D:DiskD} (w:World) (h:DiskAt base w D) :
 Calls Tryz.prog 200 #[.pointer (some ⟨D.blk,0,none⟩)] w fun e w'=>e=.returned (.bool (!decide (D.left=0)))∧DiskAt base w' D.burn∧Mod (fun k=>k=D.blk) w w':=by
 have c0:w.cell? ⟨D.blk,0,none⟩=some (.int .i64 D.left):=h.cell 0 _ rfl
 have c1:w.cell? ⟨D.blk,1,none⟩=some (.bool D.down):=h.cell 1 _ rfl
 have hfr:=h.frozen
 have hl1:=h.ints.1
 have hl2:=h.ints.2.1
 have HD:=Lib.hid h
 have HB:Hid (D.burn=if D.left=0 then { D with left := -1,down:=true } else if 0 < D.left then { D with left:=D.left - 1 } else D):=rfl
 clear h
 by_cases h0:D.left=0
 ·
  have hm:Hid (Mod (fun k=>k=D.blk) w ((w.setCell ⟨D.blk,0,none⟩ (.int .i64 (-1))).setCell ⟨D.blk,1,none⟩ (.bool true))):=(mod_set _ _ _ _).trans (mod_set _ _ _ _)
  have hh:Hid (((w.setCell ⟨D.blk,0,none⟩ (.int .i64 (-1))).setCell ⟨D.blk,1,none⟩ (.bool true)).heap[D.blk]?=some (.cells ({ D with left := -1,down:=true }:DiskD).head 78 (0,0))) :=
   heap_set1 (heap_set1 HD.out.head _ rfl) _ rfl
  rw [h0] at c0
  go_enter Tryz.func200,Tryz.ntmps200
  go_wp2_with fail
  go_ret
  refine ⟨by rw [h0]; rfl,?_,hm.out⟩
  rw [HB.out,if_pos h0]
  exact HD.out.rehead _ _ (by omega) hm.out hh.out
 ·
  have e1:(D.left == 0)=false:=by simp [h0]
  have hd:decide (D.left=0)=false:=decide_eq_false h0
  by_cases h1:0 < D.left
  ·
   have hm:Hid (Mod (fun k=>k=D.blk) w (w.setCell ⟨D.blk,0,none⟩ (.int .i64 (D.left - 1)))):=mod_set _ _ _ _
   have hh:Hid ((w.setCell ⟨D.blk,0,none⟩ (.int .i64 (D.left - 1))).heap[D.blk]?=some (.cells ({ D with left:=D.left - 1 }:DiskD).head 78 (0,0))):=heap_set1 HD.out.head _ rfl
   have e2:decide (0 < D.left)=true:=decide_eq_true h1
   go_enter Tryz.func200,Tryz.ntmps200
   go_wp2_with fail
   go_ret
   refine ⟨by rw [hd]; rfl,?_,hm.out⟩
   rw [HB.out,if_neg h0,if_pos h1]
   exact HD.out.rehead _ D.down (by omega) hm.out hh.out
  ·
   have e2:decide (0 < D.left)=false:=decide_eq_false h1
   go_enter Tryz.func200,Tryz.ntmps200
   go_wp2_with fail
   go_ret
   refine ⟨by rfl,?_,Mod.refl _ _⟩
   rw [HB.out,if_neg h0,if_neg (by omega)]
   exact HD.out
def DiskD.done (D:DiskD):Int:=if D.left=0 then 8 else 0
theorem done_any {base:Nat} {D:DiskD} (w:World) (h:DiskAt base w D) :
 Calls Tryz.prog 151 #[.pointer (some ⟨D.blk,0,none⟩)] w fun e w'=>e=.returned (.int .i64 D.done)∧DiskAt base w' D.burn∧Mod (fun k=>k=D.blk) w w':=by
 have HC:=Lib.hid (burn_any w h)
 have HF:Hid (D.done=if D.left=0 then 8 else 0):=rfl
 clear h
 go_enter Tryz.func151,Tryz.ntmps151
 go_wp2_with fail
 refine HC.out.mono ?_
 rintro e w2 ⟨rfl,hd,hm⟩
 have HD:=Lib.hid hd
 have HM:=Lib.hid hm
 clear hd hm HC
 by_cases h0:D.left=0
 ·
  have hd:decide (D.left=0)=true:=decide_eq_true h0
  rw [if_pos h0] at HF
  rw [hd]
  go_wp2_with fail
  go_ret
  rw [HF.out]
  exact ⟨rfl,HD.out,HM.out⟩
 ·
  have hd:decide (D.left=0)=false:=decide_eq_false h0
  rw [if_neg h0] at HF
  rw [hd]
  go_wp2_with fail
  go_ret
  rw [HF.out]
  exact ⟨rfl,HD.out,HM.out⟩
end Go.Proofs.YtnoehodmmkioaaaGreatDoor.DskW
namespace Go.Proofs.YtnoehodmmkioaaaGreatDoor.Grow
open Go
abbrev Kind:=Option (Value ⊕ (Value→World→Prop))
section
variable (P:Program) (ops:Array Oper) (R:World→World→Prop) (w1:World)
def detUpon (w:World) (v:Value):Result Next→Prop
 | .ok (.value u) w'=>u=v∧R w w'
 | .ok .skip w'=>undef=v∧R w w'
 | _=>False
def growUpon (w:World) (Y:Value→World→Prop):Result Next→Prop
 | .ok (.value u) w'=>Y u w'∧R w w'
 | .ok .skip w'=>Y undef w'∧R w w'
 | .ok (.enter f args) w'=>Calls P f args w' fun e w''=>∃ v,e=.returned v∧Y v w''∧R w w''
 | _=>False
def detAt (o:Oper) (a:Act) (w:World) (v:Value):Prop:=detUpon R w v ((execOp a.eval o).run P w)
def growAt (o:Oper) (a:Act) (w:World) (Y:Value→World→Prop):Prop:=growUpon P R w Y ((execOp a.eval o).run P w)
def depF (F:List (Tmp×(World→Prop))) (o:Oper) (w:World):Prop:=∀ p∈F,p.1∈o.looksAt ops→p.2 w
def addF (d:Option Tmp) (p:World→Prop) (F:List (Tmp×(World→Prop))):List (Tmp×(World→Prop)) :=
 match d with
 | some d=>(d,p) :: F
 | none=>F
def wpG (Fin:Act→World→Prop):List Oper→List Kind→List (Tmp×(World→Prop))→Act→Prop
 | [],_,F,a=>∀ w,R w1 w→(∀ p∈F,p.2 w)→Fin a w
 | o :: rest,Ys,F,a =>
   if Region.wanted o (yielded ops a.tmps) then
    match Ys.headD none with
    | none=>∃ v,(∀ w,R w1 w→depF ops F o w→detAt P R o a w v)∧wpG Fin rest Ys.tail F (a.put o.dst v)
    | some (.inl c)=>(∀ w,R w1 w→depF ops F o w→growAt P R o a w fun u _=>u=c)∧wpG Fin rest Ys.tail F (a.put o.dst c)
    | some (.inr Y)=>(∀ w,R w1 w→depF ops F o w→growAt P R o a w Y)∧∀ v,wpG Fin rest Ys.tail (addF o.dst (Y v) F) (a.put o.dst v)
   else wpG Fin rest Ys.tail F (a.put o.dst undef)
def bound (o:Oper) (k:Nat):Bool:=o.after.any fun e=>Region.binds .any e && e.on == k
theorem bound_spec {o:Oper} {k:Nat} (h:bound o k=true):∃ e∈o.after,Region.binds .any e=true∧e.on=k:=by
 unfold bound at h
 obtain ⟨e,he,hb⟩:=Array.any_eq_true'.1 h
 simp only [Bool.and_eq_true,beq_iff_eq] at hb
 exact ⟨e,he,hb.1,hb.2⟩
def chk1:Bool:=(List.range ops.size).all fun i=>((ops[i]?).map fun o=>o.after.all fun e=>!Region.binds .any e || decide (e.on < i)).getD true
def chk2 (n:Nat):Bool:=(List.range n).all fun i=>(List.range n).all fun j=>i == j || (((ops[i]?).bind (·.dst)).isNone || (ops[i]?).bind (·.dst) != (ops[j]?).bind (·.dst))
def chk3 (n:Nat):Bool:=(List.range n).all fun i=>((ops[i]?).map fun o=>(o.looksAt ops).all fun s=>(List.range n).all fun k =>
 (ops[k]?).bind (·.dst) != some s || i == k || bound o k || ((ops[k]?).map fun p=>bound p i).getD false).getD true
def chk4 (n:Nat):Bool:=n == ops.size || (List.range n).all fun h=>(List.range (n+1)).any fun j=>decide (h < j) && ((ops[j]?).map fun o=>bound o h).getD false
def chk5 (n:Nat):Bool:=(List.range ops.size).all fun t=>decide (t≤n) || ((ops[t]?).map fun o=>bound o (t - 1)).getD false
def gB (n:Nat):Bool:=Region.noSelect ops && decide (n≤ops.size) && chk1 ops && chk2 ops n && chk3 ops n && chk4 ops n && chk5 ops n
def inB (a:Act):Bool:=ops.all fun o=>o.dst.all fun d=>decide (d < a.tmps.size)
end
section
variable {P:Program} {ops:Array Oper} {R:World→World→Prop} {w1:World}
theorem look_congr {a b:Act} {o:Oper} (hs:∀ cs c,o.op≠.select cs c) (h:∀ s∈o.looksAt ops,a.tmps[s]?=b.tmps[s]?) :
 execOp a.eval o=execOp b.eval o∧Region.wanted o (yielded ops a.tmps)=Region.wanted o (yielded ops b.tmps):=by
 refine ⟨execOp_congr o hs fun x hx=>?_,?_⟩
 ·
  cases x with
  | tmp t =>
    have:=h t (List.mem_append_left _ (List.mem_filterMap.2 ⟨.tmp t,by simpa using hx,rfl⟩))
    simp only [Act.eval,Array.getD_eq_getD_getElem?,this]
  | _=>rfl
 ·
  unfold Region.wanted
  cases hg:o.guard with
  | none=>rfl
  | some gw =>
    obtain ⟨g,want⟩:=gw
    have hy:yielded ops a.tmps g=yielded ops b.tmps g:=by
     unfold yielded
     cases ht:(ops[g]?).bind (·.dst) with
     | none=>rfl
     | some t =>
       have:=h t (by simp [Oper.looksAt,hg,ht])
       simp only [Option.bind_some,this]
    simp only [hy]
def L (listed:Array Bool) (k:Nat):Prop:=listed.getD k false=true
def D (ops:Array Oper) (k:Nat):Option Tmp:=(ops[k]?).bind (·.dst)
def slot (a:Act) (d:Tmp):Value:=a.tmps.getD d undef
structure Chk (ops:Array Oper) (n:Nat):Prop where
 sel:∀ (j:Nat) (o:Oper) cs b,ops[j]?=some o→o.op≠.select cs b
 le:n≤ops.size
 low:∀ i o,ops[i]?=some o→∀ e∈o.after,Region.binds .any e=true→e.on < i
 uniq:∀ i j d,i < n→j < n→D ops i=some d→D ops j=some d→i=j
 looks:∀ i o s k,i < n→ops[i]?=some o→s∈o.looksAt ops→k < n→D ops k=some s→i=k∨bound o k=true∨∃ p,ops[k]?=some p∧bound p i=true
 waits:n=ops.size∨∀ h,h < n→∃ j o,h < j∧j≤n∧ops[j]?=some o∧bound o h=true
 seq:∀ t o,n < t→ops[t]?=some o→bound o (t - 1)=true
theorem Chk.of {n:Nat} (h:gB ops n=true):Chk ops n:=by
 unfold gB at h
 simp only [Bool.and_eq_true,decide_eq_true_eq] at h
 obtain ⟨⟨⟨⟨⟨⟨h0,hle⟩,h1⟩,h2⟩,h3⟩,h4⟩,h5⟩:=h
 refine ⟨Region.noSelect_spec h0,hle,?_,?_,?_,?_,?_⟩
 ·
  intro i o ho e he hb
  have hi:i < ops.size:=(Array.getElem?_eq_some_iff.1 ho).1
  have:=List.all_eq_true.1 h1 i (List.mem_range.2 hi)
  simp only [ho,Option.map_some,Option.getD_some] at this
  have:=Array.all_eq_true_iff_forall_mem.1 this e he
  simpa [hb] using this
 ·
  intro i j d hi hj hdi hdj
  have:=List.all_eq_true.1 h2 i (List.mem_range.2 hi)
  have:=List.all_eq_true.1 this j (List.mem_range.2 hj)
  unfold D at hdi hdj
  simpa [hdi,hdj] using this
 ·
  intro i o s k hi ho hs hk hd
  have:=List.all_eq_true.1 h3 i (List.mem_range.2 hi)
  simp only [ho,Option.map_some,Option.getD_some] at this
  have:=List.all_eq_true.1 this s hs
  have:=List.all_eq_true.1 this k (List.mem_range.2 hk)
  unfold D at hd
  cases hk2:ops[k]? with
  | none=>simp [hk2] at hd
  | some q =>
    simp only [hk2,Option.bind_some] at hd
    simp only [hk2,Option.bind_some,hd,Option.map_some,Option.getD_some,Bool.or_eq_true,beq_iff_eq,bne_self_eq_false,Bool.false_eq_true,false_or] at this
    rcases this with (h | h) | h
    · exact .inl h
    · exact .inr (.inl h)
    · exact .inr (.inr ⟨q,rfl,h⟩)
 ·
  unfold chk4 at h4
  simp only [Bool.or_eq_true,beq_iff_eq] at h4
  rcases h4 with h4 | h4
  · exact .inl h4
  ·
   refine .inr fun h hh=>?_
   have:=List.all_eq_true.1 h4 h (List.mem_range.2 hh)
   obtain ⟨j,hj,hb⟩:=List.any_eq_true.1 this
   simp only [Bool.and_eq_true,decide_eq_true_eq] at hb
   cases ho:ops[j]? with
   | none=>simp [ho] at hb
   | some o=>exact ⟨j,o,hb.1,by have:=List.mem_range.1 hj; omega,ho,by simpa [ho] using hb.2⟩
 ·
  intro t o ht ho
  have hi:t < ops.size:=(Array.getElem?_eq_some_iff.1 ho).1
  have:=List.all_eq_true.1 h5 t (List.mem_range.2 hi)
  simpa [ho,show ¬ t≤n by omega] using this
def Agree (ops:Array Oper) (a0 a b:Act) (k:Nat) (o:Oper):Prop :=
 (∀ s∈o.looksAt ops,∀ j,j < k→D ops j=some s→b.tmps[s]?=a.tmps[s]?)∧(∀ s∈o.looksAt ops,(∀ j,j < k→D ops j≠some s)→b.tmps[s]?=a0.tmps[s]?)
theorem Agree.same {a0 a b b':Act} {k:Nat} {o:Oper} (h:Agree ops a0 a b k o) (h':Agree ops a0 a b' k o):∀ s∈o.looksAt ops,b.tmps[s]?=b'.tmps[s]?:=by
 intro s hs
 by_cases hj:∃ j,j < k∧D ops j=some s
 · obtain ⟨j,hj,hd⟩:=hj
   rw [h.1 s hs j hj hd,h'.1 s hs j hj hd]
 · have hn:∀ j,j < k→D ops j≠some s:=fun j hj' hd=>hj ⟨j,hj',hd⟩
   rw [h.2 s hs hn,h'.2 s hs hn]
section
variable (P:Program) (ops:Array Oper) (R:World→World→Prop) (w1:World) (a0:Act) (n:Nat) (kind:Nat→Kind)
def GoodF (a:Act) (k:Nat) (o:Oper) (F:List (Tmp×(World→Prop))):Prop:=∀ p∈F,p.1∈o.looksAt ops →
 ∃ j oj Y bj,j < k∧ops[j]?=some oj∧oj.dst=some p.1∧kind j=some (.inr Y)∧Agree ops a0 a bj j oj∧Region.wanted oj (yielded ops bj.tmps)=true∧p.2=Y (slot a p.1)
def Holds (a:Act) (w:World) (k:Nat) (o:Oper) (d:Tmp) (b:Act):Prop :=
 if Region.wanted o (yielded ops b.tmps)=true then
  match kind k with
  | none=>∀ v F,GoodF ops a0 kind a k o F→(∀ w',R w1 w'→depF ops F o w'→detAt P R o b w' v)→slot a d=v
  | some (.inl c)=>slot a d=c
  | some (.inr Y)=>Y (slot a d) w
 else slot a d=undef
structure Inv (listed:Array Bool) (a:Act) (w:World):Prop where
 size:listed.size=ops.size
 reach:R w1 w
 defs:a.defers=a0.defers
 tsz:a.tmps.size=a0.tmps.size
 closed:∀ k o,ops[k]?=some o→L listed k→∀ e∈o.after,Region.binds .any e=true→L listed e.on
 slots:∀ s,(∀ k,L listed k→D ops k≠some s)→a.tmps[s]?=a0.tmps[s]?
 head:∀ k,L listed k→k < n
 vals:∀ k o d,ops[k]?=some o→L listed k→o.dst=some d→∀ b,Agree ops a0 a b k o→Holds P ops R w1 a0 kind a w k o d b
end
variable {a0:Act} {n:Nat} {kind:Nat→Kind}
theorem bound_lt (C:Chk ops n) {i k:Nat} {o:Oper} (ho:ops[i]?=some o) (h:bound o k=true):k < i:=by
 obtain ⟨e,he,hb,rfl⟩:=bound_spec h
 exact C.low i o ho e he hb
theorem dep_listed (C:Chk ops n) {listed:Array Bool} {k j:Nat} {o:Oper} {s:Tmp} (hk:k < n) (ho:ops[k]?=some o)
 (hall:∀ e∈o.after,Region.binds .any e=true→L listed e.on) (hs:s∈o.looksAt ops) (hj:j < k) (hd:D ops j=some s):L listed j:=by
 rcases C.looks k o s j hk ho hs (by omega) hd with h | h | ⟨p,hp,h⟩
 · omega
 · obtain ⟨e,he,hb,rfl⟩:=bound_spec h
   exact hall e he hb
 · have:=bound_lt C hp h; omega
theorem depF_of (C:Chk ops n) {listed:Array Bool} {a:Act} {w:World} (I:Inv P ops R w1 a0 n kind listed a w) {k:Nat} {o:Oper} (hk:k < n) (ho:ops[k]?=some o)
 (hall:∀ e∈o.after,Region.binds .any e=true→L listed e.on) {F:List (Tmp×(World→Prop))} (hF:GoodF ops a0 kind a k o F):depF ops F o w:=by
 intro p hp hl
 obtain ⟨j,oj,Y,bj,hj,hoj,hd,hk',hb,hw,he⟩:=hF p hp hl
 have hlj:=dep_listed C hk ho hall hl hj (by simp [D,hoj,hd])
 have:=I.vals j oj p.1 hoj hlj hd bj hb
 unfold Holds at this
 rw [if_pos hw,hk'] at this
 rw [he]; exact this
theorem getD_set {listed:Array Bool} {i k:Nat} (hi:i < listed.size):L (listed.setIfInBounds i true) k↔k=i∨L listed k:=by
 unfold L
 by_cases h:k=i
 · subst h; simp [hi]
 · simp [h,Array.getElem?_setIfInBounds_ne (Ne.symm h)]
theorem put_slot {a:Act} {d:Tmp} {v:Value} (hd:d < a.tmps.size):slot (a.put (some d) v) d=v:=by
 simp [slot,Act.put,hd]
theorem put_get_ne {a:Act} {x:Option Tmp} {s:Tmp} {v:Value} (h:x≠some s):(a.put x v).tmps[s]?=a.tmps[s]?:=by
 cases x with
 | none=>rfl
 | some d=>exact Array.getElem?_setIfInBounds_ne (fun e=>h (by rw [e]))
theorem put_slot_ne {a:Act} {x:Option Tmp} {s:Tmp} {v:Value} (h:x≠some s):slot (a.put x v) s=slot a s:=by
 unfold slot; rw [Array.getD_eq_getD_getElem?,Array.getD_eq_getD_getElem?,put_get_ne h]
theorem put_size {a:Act} {x:Option Tmp} {v:Value}:(a.put x v).tmps.size=a.tmps.size:=by
 cases x <;> simp [Act.put]
theorem put_defs {a:Act} {x:Option Tmp} {v:Value}:(a.put x v).defers=a.defers:=by
 cases x <;> rfl
theorem Inv.step (C:Chk ops n) (htr:∀ u v w:World,R u v→R v w→R u w) (hstab:∀ k Y,kind k=some (.inr Y)→∀ v w w',R w w'→Y v w→Y v w')
 {listed:Array Bool} {a:Act} {w w':World} (I:Inv P ops R w1 a0 n kind listed a w) {i:Nat} {o:Oper} (hin:i < n) (ho:ops[i]?=some o) (hun:¬ L listed i)
 (hall:∀ e∈o.after,Region.binds .any e=true→L listed e.on) {v:Value} (hR:R w w')
 (hv:∀ d,o.dst=some d→∀ b,Agree ops a0 (a.put o.dst v) b i o→Holds P ops R w1 a0 kind (a.put o.dst v) w' i o d b) :
 Inv P ops R w1 a0 n kind (listed.setIfInBounds i true) (a.put o.dst v) w':=by
 have hi:i < listed.size:=by rw [I.size]; exact (Array.getElem?_eq_some_iff.1 ho).1
 have hDi:D ops i=o.dst:=by simp [D,ho]
 have keep:∀ k ok,ops[k]?=some ok→L listed k→∀ s∈ok.looksAt ops,∀ j,j < k→D ops j=some s→o.dst≠some s:=by
  intro k ok hok hk s hs j hj hd he
  have hkn:=I.head k hk
  have:j=i:=C.uniq j i s (by omega) hin hd (by rw [hDi,he])
  subst this
  exact hun (dep_listed C hkn hok (I.closed k ok hok hk) hs hj hd)
 have agr:∀ k ok,ops[k]?=some ok→L listed k→∀ b,Agree ops a0 (a.put o.dst v) b k ok↔Agree ops a0 a b k ok:=by
  intro k ok hok hk b
  constructor
  iterate 2
   · intro h; exact ⟨fun s hs j hj hd=>by rw [h.1 s hs j hj hd,put_get_ne (keep k ok hok hk s hs j hj hd)],h.2⟩
 refine ⟨by simpa using I.size,htr _ _ _ I.reach hR,put_defs.trans I.defs,put_size.trans I.tsz,?_,?_,?_,?_⟩
 ·
  intro k ok hok hk e he hb
  rcases (getD_set hi).1 hk with rfl | hk
  · rw [ho] at hok; cases hok; exact (getD_set hi).2 (.inr (hall e he hb))
  · exact (getD_set hi).2 (.inr (I.closed k ok hok hk e he hb))
 · intro s hs
   rw [put_get_ne (by rw [← hDi]; exact hs i ((getD_set hi).2 (.inl rfl)))]
   exact I.slots s fun k hk=>hs k ((getD_set hi).2 (.inr hk))
 ·
  intro k hk
  rcases (getD_set hi).1 hk with rfl | hk
  · exact hin
  · exact I.head k hk
 ·
  intro k ok d hok hk hd b hb
  rcases (getD_set hi).1 hk with rfl | hk
  · rw [ho] at hok; cases hok; exact hv d hd b hb
  ·
   have hki:k≠i:=fun e=>hun (e ▸ hk)
   have hne:o.dst≠some d:=fun e=>hki (C.uniq k i d (I.head k hk) hin (by simp [D,hok,hd]) (by rw [hDi,e]))
   have h:=I.vals k ok d hok hk hd b ((agr k ok hok hk b).1 hb)
   unfold Holds at h ⊢
   rw [put_slot_ne hne]
   split
   ·
    rename_i hw
    rw [if_pos hw] at h
    cases hkd:kind k with
    | none =>
      rw [hkd] at h
      intro v' F hF hspec
      refine h v' F (fun p hp hl=>?_) hspec
      obtain ⟨j,oj,Y,bj,hj,hoj,hdj,hkj,hbj,hwj,he⟩:=hF p hp hl
      have hDj:D ops j=some p.1:=by simp [D,hoj,hdj]
      have hlj:=dep_listed C (I.head k hk) hok (I.closed k ok hok hk) hl hj hDj
      exact ⟨j,oj,Y,bj,hj,hoj,hdj,hkj,(agr j oj hoj hlj bj).1 hbj,hwj,by rw [he,put_slot_ne (keep k ok hok hk p.1 hl j hj hDj)]⟩
    | some x =>
      rw [hkd] at h
      cases x with
      | inl c=>exact h
      | inr Y=>exact hstab k Y hkd _ _ _ hR h
   · rename_i hw
     rw [if_neg hw] at h
     exact h
section
variable (P:Program) (ops:Array Oper) (R:World→World→Prop) (w1:World) (a0:Act) (n:Nat) (kind:Nat→Kind)
structure Path (listed:Array Bool) (a:Act) (k:Nat) (b:Act) (F:List (Tmp×(World→Prop))):Prop where
 defs:b.defers=a0.defers
 tsz:b.tmps.size=a0.tmps.size
 other:∀ s,(∀ j,j < k→D ops j≠some s)→b.tmps[s]?=a0.tmps[s]?
 same:∀ j,j < k→L listed j→∀ d,D ops j=some d→b.tmps[d]?=a.tmps[d]?
 facts:∀ p∈F,∃ j oj Y v,j < k∧ops[j]?=some oj∧oj.dst=some p.1∧kind j=some (.inr Y)∧p.2=Y v ∧
  (L listed j→v=slot a p.1∧∃ bj,Agree ops a0 a bj j oj∧Region.wanted oj (yielded ops bj.tmps)=true)
def Spec (a:Act) (i:Nat) (o:Oper):Prop:=∃ b F,Agree ops a0 a b i o∧GoodF ops a0 kind a i o F∧(Region.wanted o (yielded ops b.tmps)=true →
 match kind i with
 | none=>∃ v,∀ w',R w1 w'→depF ops F o w'→detAt P R o b w' v
 | some (.inl c)=>∀ w',R w1 w'→depF ops F o w'→growAt P R o b w' fun u _=>u=c
 | some (.inr Y)=>∀ w',R w1 w'→depF ops F o w'→growAt P R o b w' Y)
end
theorem Path.agree (C:Chk ops n) {listed:Array Bool} {a b:Act} {F:List (Tmp×(World→Prop))} {k:Nat} {o:Oper} (hp:Path ops a0 kind listed a k b F) (hk:k < n) (ho:ops[k]?=some o)
 (hall:∀ e∈o.after,Region.binds .any e=true→L listed e.on):Agree ops a0 a b k o∧GoodF ops a0 kind a k o F:=by
 refine ⟨⟨fun s hs j hj hd=>hp.same j hj (dep_listed C hk ho hall hs hj hd) s hd,fun s _ hn=>hp.other s hn⟩,fun p hpF hl=>?_⟩
 obtain ⟨j,oj,Y,v,hj,hoj,hd,hkj,he,hL⟩:=hp.facts p hpF
 obtain ⟨hv,bj,hbj,hw⟩:=hL (dep_listed C hk ho hall hl hj (by simp [D,hoj,hd]))
 exact ⟨j,oj,Y,bj,hj,hoj,hd,hkj,hbj,hw,by rw [he,hv]⟩
theorem Path.step (C:Chk ops n) {listed:Array Bool} {a b:Act} {w:World} {F:List (Tmp×(World→Prop))} {k:Nat} {o:Oper} (I:Inv P ops R w1 a0 n kind listed a w)
 (hin:∀ o d,o∈ops→o.dst=some d→d < a0.tmps.size) (hp:Path ops a0 kind listed a k b F) (hk:k < n) (ho:ops[k]?=some o) (v:Value)
 (hv:L listed k→∀ d,o.dst=some d→v=slot a d):Path ops a0 kind listed a (k+1) (b.put o.dst v) F:=by
 have hDk:D ops k=o.dst:=by simp [D,ho]
 refine ⟨put_defs.trans hp.defs,put_size.trans hp.tsz,fun s hs=>?_,fun j hj hL d hd=>?_,fun p hpF=>?_⟩
 · rw [put_get_ne (by rw [← hDk]; exact hs k (by omega))]
   exact hp.other s fun j hj=>hs j (by omega)
 ·
  by_cases e:j=k
  ·
   subst e
   rw [hDk] at hd
   have hd1:=hin o d (Array.mem_of_getElem? ho) hd
   have:=hv hL d hd
   rw [hd]
   have h1:d < b.tmps.size:=by rw [hp.tsz]; exact hd1
   have h2:d < a.tmps.size:=by rw [I.tsz]; exact hd1
   simp only [Act.put,Array.getElem?_setIfInBounds_self_of_lt h1,this,slot]
   simp [h2]
  · rw [put_get_ne fun e'=>e (C.uniq j k d (I.head j hL) hk hd (by rw [hDk,e']))]
    exact hp.same j (by omega) hL d hd
 · obtain ⟨j,oj,Y,v,hj,h⟩:=hp.facts p hpF
   exact ⟨j,oj,Y,v,by omega,h⟩
theorem Path.fact {listed:Array Bool} {a b b':Act} {F:List (Tmp×(World→Prop))} {k:Nat} {o:Oper} (hp:Path ops a0 kind listed a (k+1) b' F) (ho:ops[k]?=some o) {Y:Value→World→Prop}
 (hY:kind k=some (.inr Y)) (v:Value) (hv:L listed k→(∀ d,o.dst=some d→v=slot a d)∧Agree ops a0 a b k o∧Region.wanted o (yielded ops b.tmps)=true) :
 Path ops a0 kind listed a (k+1) b' (addF o.dst (Y v) F):=by
 refine ⟨hp.defs,hp.tsz,hp.other,hp.same,fun p hpF=>?_⟩
 unfold addF at hpF
 split at hpF
 ·
  rename_i d hd
  rcases List.mem_cons.1 hpF with rfl | hpF
  · exact ⟨k,o,Y,v,by omega,ho,hd,hY,rfl,fun hL=>⟨(hv hL).1 d hd,b,(hv hL).2⟩⟩
  · exact hp.facts p hpF
 · exact hp.facts p hpF
theorem descend (C:Chk ops n) (hin:∀ o d,o∈ops→o.dst=some d→d < a0.tmps.size) {Fin:Act→World→Prop} {listed:Array Bool} {a:Act} {w:World} (I:Inv P ops R w1 a0 n kind listed a w) :
 ∀ (l:List Oper) (k:Nat) (Ks:List Kind) (F:List (Tmp×(World→Prop))) (b:Act),k+l.length=n→(∀ j,j < l.length→l[j]?=ops[k+j]?)→(∀ j,Ks.getD j none=kind (k+j)) →
  Path ops a0 kind listed a k b F→wpG P ops R w1 Fin l Ks F b →
  (∀ i o,k≤i→i < n→ops[i]?=some o→(∀ e∈o.after,Region.binds .any e=true→L listed e.on)→Spec P ops R w1 a0 kind a i o) ∧
  (∃ b F,Path ops a0 kind listed a n b F∧∀ w,R w1 w→(∀ p∈F,p.2 w)→Fin b w)
 | [],k,Ks,F,b,hn,_,_,hp,h=>by
   have:k=n:=by simpa using hn
   subst this
   exact ⟨fun i o h1 h2=>by omega,b,F,hp,h⟩
 | o :: l,k,Ks,F,b,hn,hl,hK,hp,h=>by
   simp only [List.length_cons] at hn
   have ho:ops[k]?=some o:=by have:=hl 0 (by simp); simpa using this.symm
   have hk:k < n:=by omega
   have hl':∀ j,j < l.length→l[j]?=ops[(k+1)+j]?:=fun j hj=>by
    have:=hl (j+1) (by simp; omega)
    rw [show k+1+j=k+(j+1) by omega,← this]; rfl
   have hK':∀ j,Ks.tail.getD j none=kind ((k+1)+j):=fun j=>by
    have:=hK (j+1)
    rw [show k+1+j=k+(j+1) by omega,← this]
    cases Ks <;> simp
   have hK0:Ks.headD none=kind k:=by
    have:=hK 0
    rw [Nat.add_zero] at this
    rw [← this]
    cases Ks <;> simp
   have hall:L listed k→∀ e∈o.after,Region.binds .any e=true→L listed e.on:=fun hL=>I.closed k o ho hL
   have key:∃ b' F',Path ops a0 kind listed a (k+1) b' F'∧wpG P ops R w1 Fin l Ks.tail F' b' ∧
    (Region.wanted o (yielded ops b.tmps)=true→match kind k with
     | none=>∃ v,∀ w',R w1 w'→depF ops F o w'→detAt P R o b w' v
     | some (.inl c)=>∀ w',R w1 w'→depF ops F o w'→growAt P R o b w' fun u _=>u=c
     | some (.inr Y)=>∀ w',R w1 w'→depF ops F o w'→growAt P R o b w' Y):=by
    unfold wpG at h
    split at h
    ·
     rename_i hw
     rw [hK0] at h
     cases hkd:kind k with
     | none =>
       rw [hkd] at h
       obtain ⟨v,hs,h⟩:=h
       refine ⟨_,F,hp.step C I hin hk ho v fun hL d hd=>?_,h,fun _=>⟨v,hs⟩⟩
       obtain ⟨hA,hG⟩:=hp.agree C hk ho (hall hL)
       have:=I.vals k o d ho hL hd b hA
       unfold Holds at this
       rw [if_pos hw,hkd] at this
       exact (this v F hG hs).symm
     | some x =>
       rw [hkd] at h
       cases x with
       | inl c =>
         obtain ⟨hs,h⟩:=h
         refine ⟨_,F,hp.step C I hin hk ho c fun hL d hd=>?_,h,fun _=>hs⟩
         obtain ⟨hA,hG⟩:=hp.agree C hk ho (hall hL)
         have:=I.vals k o d ho hL hd b hA
         unfold Holds at this
         rw [if_pos hw,hkd] at this
         exact this.symm
       | inr Y =>
         obtain ⟨hs,h⟩:=h
         have hv:L listed k→∀ d,o.dst=some d→(o.dst.map (slot a)).getD undef=slot a d:=fun _ d hd=>by simp [hd]
         refine ⟨_,_,(hp.step C I hin hk ho _ hv).fact ho hkd _ fun hL=>⟨hv hL,(hp.agree C hk ho (hall hL)).1,hw⟩,h _,fun _=>hs⟩
    · rename_i hw
      refine ⟨_,F,hp.step C I hin hk ho undef fun hL d hd=>?_,h,fun hw'=>absurd hw' hw⟩
      have:=I.vals k o d ho hL hd b (hp.agree C hk ho (hall hL)).1
      unfold Holds at this
      rw [if_neg hw] at this
      exact this.symm
   obtain ⟨b',F',hp',h',hs⟩:=key
   obtain ⟨r1,r2⟩:=descend C hin I l (k+1) Ks.tail F' b' (by omega) hl' hK' hp' h'
   refine ⟨fun i oi h1 h2 hoi hai=>?_,r2⟩
   by_cases e:i=k
   · subst e
     rw [ho] at hoi; cases hoi
     exact ⟨b,F,(hp.agree C h2 ho hai).1,(hp.agree C h2 ho hai).2,hs⟩
   · exact r1 i oi (by omega) h2 hoi hai
def left (listed:Array Bool):Nat→Nat
 | 0=>0
 | n+1=>left listed n+if listed.getD n false then 0 else 1
theorem left_far {listed:Array Bool} {i:Nat}:∀ n,n≤i→left (listed.setIfInBounds i true) n=left listed n
 | 0,_=>rfl
 | n+1,h=>by
   unfold left
   rw [left_far n (by omega)]
   have:(listed.setIfInBounds i true).getD n false=listed.getD n false:=by
    rw [Array.getD_eq_getD_getElem?,Array.getD_eq_getD_getElem?,Array.getElem?_setIfInBounds_ne (by omega)]
   rw [this]
theorem left_set {listed:Array Bool} {i:Nat} (hi:i < listed.size) (hun:¬ L listed i):∀ n,i < n→left (listed.setIfInBounds i true) n+1=left listed n
 | 0,h=>by omega
 | n+1,h=>by
   unfold left
   by_cases e:i=n
   · subst e
     rw [left_far i (Nat.le_refl _)]
     have h1:(listed.setIfInBounds i true).getD i false=true:=(getD_set hi).2 (.inl rfl)
     have h2:listed.getD i false=false:=by unfold L at hun; simpa using hun
     rw [h1,h2]; simp
   · have:=left_set hi hun n (by omega)
     have h1:(listed.setIfInBounds i true).getD n false=listed.getD n false:=by
      rw [Array.getD_eq_getD_getElem?,Array.getD_eq_getD_getElem?,Array.getElem?_setIfInBounds_ne (by omega)]
     rw [h1]; omega
theorem left_none {listed:Array Bool}:∀ n,left listed n=0→∀ k,k < n→L listed k
 | 0,_,k,hk=>by omega
 | n+1,h,k,hk=>by
   unfold left at h
   by_cases e:k=n
   · subst e
     unfold L
     by_cases h1:listed.getD k false=true
     · exact h1
     · rw [if_neg h1] at h; omega
   · exact left_none n (by omega) k (by omega)
theorem left_some {listed:Array Bool}:∀ n,0 < left listed n→∃ k,k < n∧¬ L listed k∧∀ j,j < k→L listed j
 | 0,h=>by simp [left] at h
 | n+1,h=>by
   by_cases h0:0 < left listed n
   · obtain ⟨k,hk,h1,h2⟩:=left_some n h0
     exact ⟨k,by omega,h1,h2⟩
   ·
    have hn:=left_none (listed:=listed) n (by omega)
    refine ⟨n,by omega,fun hL=>?_,hn⟩
    unfold left at h
    unfold L at hL
    rw [if_pos hL] at h
    omega
theorem mem_ready' {listed:Array Bool} (hs:listed.size=ops.size) {j:Nat}:j∈Region.ready .any ops listed ↔
 ¬ L listed j∧∃ o,ops[j]?=some o∧∀ e∈o.after,Region.binds .any e=true→L listed e.on:=by
 rw [mem_ready]
 constructor
 ·
  rintro ⟨h0,o,ho,h⟩
  have hj:j < listed.size:=by rw [hs]; exact (Array.getElem?_eq_some_iff.1 ho).1
  refine ⟨?_,o,ho,h⟩
  unfold L
  simp [hj] at h0 ⊢
  exact h0
 ·
  rintro ⟨h0,o,ho,h⟩
  have hj:j < listed.size:=by rw [hs]; exact (Array.getElem?_eq_some_iff.1 ho).1
  refine ⟨?_,o,ho,h⟩
  unfold L at h0
  simp [hj] at h0 ⊢
  exact h0
theorem wpAny_tail (C:Chk ops n) {Q:Exit→Act→World→Prop}:∀ (l:List Oper) (m:Nat) (listed:Array Bool) (a:Act) (w:World),n≤m→(∀ j,l[j]?=ops[m+j]?)→l.length=ops.size - m→listed.size=ops.size →
 (∀ k,k < ops.size→(L listed k↔k < m))→wpList P ops Q l a w→wpAny P .any ops Q l.length listed a w
 | [],m,listed,a,w,hm,hl,hlen,hs,hL,h=>by
   refine ⟨List.eq_nil_iff_forall_not_mem.2 fun j hj=>?_,h⟩
   obtain ⟨h0,o,ho,_⟩:=(mem_ready' hs).1 hj
   have hj':=(Array.getElem?_eq_some_iff.1 ho).1
   exact h0 ((hL j hj').2 (by simp at hlen; omega))
 | o :: l,m,listed,a,w,hm,hl,hlen,hs,hL,h=>by
   have ho:ops[m]?=some o:=by simpa using (hl 0).symm
   have hmlt:m < ops.size:=(Array.getElem?_eq_some_iff.1 ho).1
   have hmr:m∈Region.ready .any ops listed:=(mem_ready' hs).2 ⟨fun h=>by have:=(hL m hmlt).1 h; omega,o,ho,fun e he hb=>(hL e.on (by have:=C.low m o ho e he hb; omega)).2 (C.low m o ho e he hb)⟩
   refine ⟨fun h0=>(by rw [h0] at hmr; cases hmr),fun i hi=>?_⟩
   obtain ⟨h0,oi,hoi,hall⟩:=(mem_ready' hs).1 hi
   have hilt:=(Array.getElem?_eq_some_iff.1 hoi).1
   have him:i=m:=by
    by_cases e:i=m
    · exact e
    · have hge:¬ i < m:=fun h=>h0 ((hL i hilt).2 h)
      obtain ⟨e',he,hb,hon⟩:=bound_spec (C.seq i oi (by omega) hoi)
      have:=(hL (i - 1) (by omega)).1 (hon ▸ hall e' he hb)
      omega
   subst him
   have hw:wpOp P ops Q i (wpList P ops Q l) a w:=by unfold wpOp; simp only [ho]; exact h
   refine wpOp_mono (fun a' w' h'=>wpAny_tail C l (i+1) _ a' w' (by omega) (fun j=>?_) (by simp at hlen; omega) (by simpa using hs) (fun k hk=>?_) h') hw
   · have:=hl (j+1)
     rw [show i+1+j=i+(j+1) by omega,← this]; rfl
   · rw [getD_set (by rw [hs]; exact hmlt),hL k hk]; omega
theorem wp_of_det {o:Oper} {a:Act} {w:World} {v:Value} {K:Act→World→Prop} {Q:Exit→Act→World→Prop} (h:detAt P R o a w v) (hK:∀ w',R w w'→K (a.put o.dst v) w'):o.wp P a w K Q:=by
 unfold detAt at h
 unfold Oper.wp
 generalize (execOp a.eval o).run P w=r at *
 cases r with
 | ok x w' =>
   cases x <;> simp only [detUpon] at h <;> simp only [Oper.upon]
   case value u=>obtain ⟨rfl,hR⟩:=h; exact hK _ hR
   case skip=>obtain ⟨rfl,hR⟩:=h; exact hK _ hR
 | halt x w'=>simp only [detUpon] at h
theorem wp_of_grow {o:Oper} {a:Act} {w:World} {Y:Value→World→Prop} {K:Act→World→Prop} {Q:Exit→Act→World→Prop} (h:growAt P R o a w Y) (hK:∀ v w',Y v w'→R w w'→K (a.put o.dst v) w'):o.wp P a w K Q:=by
 unfold growAt at h
 unfold Oper.wp
 generalize (execOp a.eval o).run P w=r at *
 cases r with
 | ok x w' =>
   cases x <;> simp only [growUpon] at h <;> simp only [Oper.upon]
   case value u=>exact hK _ _ h.1 h.2
   case skip=>exact hK _ _ h.1 h.2
   case enter f args=>exact h.mono fun e w'' ⟨v,he,hY,hR⟩=>by subst he; exact hK _ _ hY hR
 | halt x w'=>simp only [growUpon] at h
theorem Inv.settle {listed:Array Bool} {a:Act} {w:World} (I:Inv P ops R w1 a0 n kind listed a w) (hall:∀ k,k < n→L listed k)
 {b:Act} {F:List (Tmp×(World→Prop))} (hp:Path ops a0 kind listed a n b F):b=a∧∀ p∈F,p.2 w:=by
 constructor
 ·
  have ht:b.tmps=a.tmps:=by
   apply Array.ext_getElem?
   intro s
   by_cases hj:∃ j,j < n∧D ops j=some s
   · obtain ⟨j,hj,hd⟩:=hj
     exact hp.same j hj (hall j hj) s hd
   · have hn:∀ j,j < n→D ops j≠some s:=fun j hj' hd=>hj ⟨j,hj',hd⟩
     rw [hp.other s hn,I.slots s fun k hk=>hn k (I.head k hk)]
  have hd:b.defers=a.defers:=hp.defs.trans I.defs.symm
  cases a; cases b; simp_all
 ·
  intro p hpF
  obtain ⟨j,oj,Y,v,hj,hoj,hd,hkj,he,hL⟩:=hp.facts p hpF
  obtain ⟨hv,bj,hbj,hw⟩:=hL (hall j hj)
  have:=I.vals j oj p.1 hoj (hall j hj) hd bj hbj
  unfold Holds at this
  rw [if_pos hw,hkj] at this
  rw [he,hv]; exact this
theorem wpAny_of_g (C:Chk ops n) (hrf:∀ w:World,R w w) (htr:∀ u v w:World,R u v→R v w→R u w) (hstab:∀ k Y,kind k=some (.inr Y)→∀ v w w',R w w'→Y v w→Y v w')
 (hin:∀ o d,o∈ops→o.dst=some d→d < a0.tmps.size) {Q:Exit→Act→World→Prop} {l:List Oper} (hll:l.length=n) (hl:∀ j,j < l.length→l[j]?=ops[0+j]?) {Ks:List Kind} (hK:∀ j,Ks.getD j none=kind (0+j))
 {t:List Oper} (htl:t.length=ops.size - n) (ht:∀ j,t[j]?=ops[n+j]?)
 (h:wpG P ops R w1 (fun a' w'=>wpList P ops Q t a' w') l Ks [] a0) :
 ∀ (fuel:Nat) (listed:Array Bool) (a:Act) (w:World),fuel=left listed n+t.length→Inv P ops R w1 a0 n kind listed a w→wpAny P .any ops Q fuel listed a w:=by
 intro fuel
 induction fuel with
 | zero =>
   intro listed a w hf I
   have hall:=left_none n (show left listed n=0 by omega)
   have h0:Path ops a0 kind listed a 0 a0 []:=⟨rfl,rfl,fun _ _=>rfl,fun j hj=>by omega,fun p hp=>by cases hp⟩
   obtain ⟨b,F,hp,hfin⟩:=(descend C hin I l 0 Ks [] a0 (by omega) hl hK h0 h).2
   obtain ⟨rfl,hF⟩:=I.settle hall hp
   have:=wpAny_tail C t n listed b w (Nat.le_refl _) ht htl I.size (fun k hk=>⟨I.head k,hall k⟩) (hfin w I.reach hF)
   rw [show t.length=0 by omega] at this
   exact this
 | succ fuel ih =>
   intro listed a w hf I
   have h0:Path ops a0 kind listed a 0 a0 []:=⟨rfl,rfl,fun _ _=>rfl,fun j hj=>by omega,fun p hp=>by cases hp⟩
   obtain ⟨hsp,b,F,hp,hfin⟩:=descend C hin I l 0 Ks [] a0 (by omega) hl hK h0 h
   by_cases hz:left listed n=0
   · have hall:=left_none n hz
     obtain ⟨rfl,hF⟩:=I.settle hall hp
     have:=wpAny_tail C t n listed b w (Nat.le_refl _) ht htl I.size (fun k hk=>⟨I.head k,hall k⟩) (hfin w I.reach hF)
     rw [show t.length=fuel+1 by omega] at this
     exact this
   ·
    obtain ⟨k,hkn,hkun,hklow⟩:=left_some n (by omega:0 < left listed n)
    have hks:k < ops.size:=by have:=C.le; omega
    refine ⟨fun hr=>?_,fun i hi=>?_⟩
    · have:k∈Region.ready .any ops listed:=(mem_ready' I.size).2 ⟨hkun,ops[k],Array.getElem?_eq_getElem hks,fun e he hb=>hklow _ (C.low k _ (Array.getElem?_eq_getElem hks) e he hb)⟩
      rw [hr] at this; cases this
    ·
     obtain ⟨hiun,o,ho,hall⟩:=(mem_ready' I.size).1 hi
     have his:=(Array.getElem?_eq_some_iff.1 ho).1
     have hin':i < n:=by
      by_cases hlt:i < n
      · exact hlt
      ·
       -- the last of the first n that is still to come is waited for
       have hlast:∀ m,m≤n→(∀ j,m≤j→j < n→L listed j)→False:=by
        intro m
        induction m with
        | zero=>intro _ hm; exact hkun (hm k (by omega) hkn)
        | succ m ihm =>
          intro hmn hm
          by_cases hLm:L listed m
          · exact ihm (by omega) fun j h1 h2=>by
             by_cases e:j=m
             · subst e; exact hLm
             · exact hm j (by omega) h2
          ·
           rcases C.waits with hw | hw
           · omega
           · obtain ⟨j,oj,h1,h2,hoj,hb⟩:=hw m (by omega)
             obtain ⟨e,he,hbe,hon⟩:=bound_spec hb
             by_cases hjn:j < n
             · exact hLm (hon ▸ I.closed j oj hoj (hm j (by omega) hjn) e he hbe)
             · have hjn':j=n:=by omega
               subst hjn'
               by_cases hij:i=j
               · subst hij
                 rw [ho] at hoj; cases hoj
                 exact hLm (hon ▸ hall e he hbe)
               · obtain ⟨e',he',hb',hon'⟩:=bound_spec (C.seq i o (by omega) ho)
                 have:=I.head (i - 1) (hon' ▸ hall e' he' hb')
                 omega
       exact (hlast n (Nat.le_refl _) fun j h1 h2=>by omega).elim
     obtain ⟨b',F',hA,hG,hspec⟩:=hsp i o (by omega) hin' ho hall
     have hsel:=fun cs c=>C.sel i o cs c ho
     have hab:∀ s∈o.looksAt ops,a.tmps[s]?=b'.tmps[s]?:=by
      intro s hs
      by_cases hj:∃ j,j < i∧D ops j=some s
      · obtain ⟨j,hj,hd⟩:=hj
        exact (hA.1 s hs j hj hd).symm
      · have hn':∀ j,j < i→D ops j≠some s:=fun j hj' hd=>hj ⟨j,hj',hd⟩
        rw [hA.2 s hs hn']
        refine I.slots s fun j hLj hd=>?_
        rcases C.looks i o s j hin' ho hs (I.head j hLj) hd with hij | hij | ⟨q,hq,hij⟩
        · subst hij; exact hiun hLj
        · exact hn' j (bound_lt C ho hij) hd
        · obtain ⟨e,he,hb,rfl⟩:=bound_spec hij
          exact hiun (I.closed j q hq hLj e he hb)
     obtain ⟨hex,hwa⟩:=look_congr (ops:=ops) hsel hab
     have hdep:=depF_of C I hin' ho hall hG
     have hfuel:fuel=left (listed.setIfInBounds i true) n+t.length:=by
      have:=left_set (listed:=listed) (by rw [I.size]; exact his) hiun n hin'; omega
     have same:∀ (v:Value) b,Agree ops a0 (a.put o.dst v) b i o→execOp b.eval o=execOp b'.eval o∧Region.wanted o (yielded ops b.tmps)=Region.wanted o (yielded ops b'.tmps):=by
      intro v b hb
      have hb2:Agree ops a0 a b i o:=by
       refine ⟨fun s hs j hj hd=>?_,hb.2⟩
       rw [hb.1 s hs j hj hd]
       refine put_get_ne fun e=>?_
       have:j=i:=C.uniq j i s (by omega) hin' hd (by simp [D,ho,e])
       omega
      exact look_congr hsel (hb2.same hA)
     have good:∀ (v:Value) F,GoodF ops a0 kind (a.put o.dst v) i o F→GoodF ops a0 kind a i o F:=by
      intro v F hF p hp hl
      obtain ⟨j,oj,Y,bj,hj,hoj,hdj,hkj,hbj,hwj,he⟩:=hF p hp hl
      have hDj:D ops j=some p.1:=by simp [D,hoj,hdj]
      have hlj:=dep_listed C hin' ho hall hl hj hDj
      have hne:o.dst≠some p.1:=fun e=>by
       have:j=i:=C.uniq j i p.1 (by omega) hin' hDj (by simp [D,ho,e])
       omega
      refine ⟨j,oj,Y,bj,hj,hoj,hdj,hkj,⟨fun s hs j' hj' hd'=>?_,hbj.2⟩,hwj,by rw [he,put_slot_ne hne]⟩
      rw [hbj.1 s hs j' hj' hd']
      refine put_get_ne fun e=>?_
      have:j'=i:=C.uniq j' i s (by omega) hin' hd' (by simp [D,ho,e])
      subst this
      omega
     have hd1:∀ d,o.dst=some d→d < a.tmps.size:=fun d hd=>by rw [I.tsz]; exact hin o d (Array.mem_of_getElem? ho) hd
     unfold wpOp
     simp only [ho]
     split
     ·
      rename_i hw
      have hwb:Region.wanted o (yielded ops b'.tmps)=true:=by rw [← hwa]; exact hw
      have hspec:=hspec hwb
      refine .inl ?_
      cases hkd:kind i with
      | none =>
        rw [hkd] at hspec
        obtain ⟨v,hs⟩:=hspec
        have hd:detAt P R o a w v:=by unfold detAt; rw [hex]; exact hs w I.reach hdep
        refine wp_of_det hd fun w' hR=>ih _ _ _ hfuel (I.step C htr hstab hin' ho hiun hall hR fun d hdd b hb=>?_)
        obtain ⟨e1,e2⟩:=same v b hb
        unfold Holds
        rw [if_pos (by rw [e2]; exact hwb),hkd]
        intro v' F2 hF2 hs2
        have h1:=hs w I.reach hdep
        have h2:=hs2 w I.reach (depF_of C I hin' ho hall (good v F2 hF2))
        unfold detAt at h1 h2
        rw [e1] at h2
        rw [hdd,put_slot (hd1 d hdd)]
        generalize (execOp b'.eval o).run P w=r at h1 h2
        cases r with
        | ok x w'' =>
          cases x <;> simp only [detUpon] at h1 h2
          case value u=>rw [← h1.1,h2.1]
          case skip=>rw [← h1.1,h2.1]
        | halt x w''=>simp only [detUpon] at h1
      | some x =>
        rw [hkd] at hspec
        cases x with
        | inl c =>
          have hg:growAt P R o a w fun u _=>u=c:=by unfold growAt; rw [hex]; exact hspec w I.reach hdep
          refine wp_of_grow hg fun v w' hv hR=>ih _ _ _ hfuel (I.step C htr hstab hin' ho hiun hall hR fun d hdd b hb=>?_)
          obtain ⟨e1,e2⟩:=same v b hb
          unfold Holds
          rw [if_pos (by rw [e2]; exact hwb),hkd]
          show slot _ d=c
          rw [hdd,put_slot (hd1 d hdd)]; exact hv
        | inr Y =>
          have hg:growAt P R o a w Y:=by unfold growAt; rw [hex]; exact hspec w I.reach hdep
          refine wp_of_grow hg fun v w' hv hR=>ih _ _ _ hfuel (I.step C htr hstab hin' ho hiun hall hR fun d hdd b hb=>?_)
          obtain ⟨e1,e2⟩:=same v b hb
          unfold Holds
          rw [if_pos (by rw [e2]; exact hwb),hkd]
          show Y (slot _ d) w'
          rw [hdd,put_slot (hd1 d hdd)]; exact hv
     · rename_i hw
       have hwb:¬ Region.wanted o (yielded ops b'.tmps)=true:=by rw [← hwa]; exact hw
       refine ih _ _ _ hfuel (I.step C htr hstab hin' ho hiun hall (hrf w) fun d hdd b hb=>?_)
       obtain ⟨e1,e2⟩:=same undef b hb
       unfold Holds
       rw [if_neg (by rw [e2]; exact hwb)]
       rw [hdd,put_slot (hd1 d hdd)]
theorem wp_region_g {id:Nat} {l:List Oper} {Q:Exit→Act→World→Prop} {a:Act} {w:World} (n:Nat) (Ks:List Kind) (R:World→World→Prop) (hm:P.follows .mixedOrders=true)
 (hB:gB l.toArray n=true) (hin:inB l.toArray a=true) (hrf:∀ w:World,R w w) (htr:∀ u v w:World,R u v→R v w→R u w)
 (hstab:∀ K∈Ks,∀ Y,K=some (.inr Y)→∀ v w w',R w w'→Y v w→Y v w')
 (h:wpG P l.toArray R w.drew (fun a' w'=>wpList P l.toArray Q (l.drop n) a' w') (l.take n) Ks [] a):(Code.region id l.toArray true).wp P Q a w:=by
 have C:=Chk.of hB
 have hle:n≤l.length:=by have:=C.le; simpa using this
 have hin':∀ o d,o∈l.toArray→o.dst=some d→d < a.tmps.size:=by
  intro o d ho hd
  unfold inB at hin
  have:=Array.all_eq_true_iff_forall_mem.1 hin o ho
  simpa [hd] using this
 refine wp_region_any hm ?_
 refine wpAny_of_g (a0:=a) (n:=n) (kind:=fun k=>Ks.getD k none) C hrf htr (fun k Y hk v w w' hR hY=>?_) hin' (l:=l.take n) (Ks:=Ks) (by simp [hle]) (fun j hj=>?_) (fun j=>by simp)
  (t:=l.drop n) (by simp) (fun j=>by simp) h _ _ _ _ ?_ ?_
 ·
  have hlt:k < Ks.length:=by
   rcases Nat.lt_or_ge k Ks.length with h | h
   · exact h
   · simp [List.getD,List.getElem?_eq_none h] at hk
  have hmem:(some (.inr Y):Kind)∈Ks:=by
   rw [← hk,List.getD_eq_getElem?_getD,List.getElem?_eq_getElem hlt]; exact List.getElem_mem hlt
  exact hstab _ hmem Y rfl v w w' hR hY
 · have:j < n:=by simp at hj; omega
   simp [this]
 ·
  have:∀ m,m≤l.length→left (Array.replicate l.length false) m=m:=by
   intro m
   induction m with
   | zero=>intro _; rfl
   | succ m ih=>intro hm'; unfold left; rw [ih (by omega)]; simp [show m < l.length by omega]
  have h2:=this n hle
  simp only [List.size_toArray,List.length_drop]
  rw [h2]; omega
 ·
  have hno:∀ k,¬ L (Array.replicate l.toArray.size false) k:=by
   intro k hk
   unfold L at hk
   simp only [Array.getD_eq_getD_getElem?,Array.getElem?_replicate] at hk
   split at hk <;> simp at hk
  exact ⟨by simp,hrf _,rfl,rfl,fun k o _ hk=>(hno k hk).elim,fun _ _=>rfl,fun k hk=>(hno k hk).elim,fun k o d _ hk=>(hno k hk).elim⟩
section
variable {Fin:Act→World→Prop} {o:Oper} {rest:List Oper} {Ks:List Kind} {F:List (Tmp×(World→Prop))} {a:Act}
theorem g_nil (h:∀ w,R w1 w→(∀ p∈F,p.2 w)→Fin a w):wpG P ops R w1 Fin [] Ks F a:=h
theorem g_det (hw:Region.wanted o (yielded ops a.tmps)=true) (h:∃ v,(∀ w,R w1 w→depF ops F o w→detAt P R o a w v)∧wpG P ops R w1 Fin rest Ks F (a.put o.dst v)) :
 wpG P ops R w1 Fin (o :: rest) (none :: Ks) F a:=by
 unfold wpG; rw [if_pos hw]; exact h
theorem g_con {c:Value} (hw:Region.wanted o (yielded ops a.tmps)=true) (h:∀ w,R w1 w→depF ops F o w→growAt P R o a w fun u _=>u=c) (hk:wpG P ops R w1 Fin rest Ks F (a.put o.dst c)) :
 wpG P ops R w1 Fin (o :: rest) (some (.inl c) :: Ks) F a:=by
 unfold wpG; rw [if_pos hw]; exact ⟨h,hk⟩
theorem g_new {Y:Value→World→Prop} (hw:Region.wanted o (yielded ops a.tmps)=true) (h:∀ w,R w1 w→depF ops F o w→growAt P R o a w Y) (hk:∀ v,wpG P ops R w1 Fin rest Ks (addF o.dst (Y v) F) (a.put o.dst v)) :
 wpG P ops R w1 Fin (o :: rest) (some (.inr Y) :: Ks) F a:=by
 unfold wpG; rw [if_pos hw]; exact ⟨h,hk⟩
theorem g_skip {K:Kind} (hw:Region.wanted o (yielded ops a.tmps)=false) (hk:wpG P ops R w1 Fin rest Ks F (a.put o.dst undef)) :
 wpG P ops R w1 Fin (o :: rest) (K :: Ks) F a:=by
 unfold wpG; rw [if_neg (by rw [hw]; exact Bool.false_ne_true)]; exact hk
end
end
attribute [go_sem] detAt detUpon growAt growUpon
attribute [irreducible] wpG
end Go.Proofs.YtnoehodmmkioaaaGreatDoor.Grow
namespace Go.Proofs.YtnoehodmmkioaaaGreatDoor.DskW
open Go.RowKit Go.MapKept Go.ChangeMaps OctMath
/-! a loop over a map's entries: each comes once -/
theorem leftOf_push (es:Array MapEntry) (seen:Array Nat) (b:Nat):(leftOf es (seen.push b)).toList=(leftOf es seen).toList.filter (fun x=>!(x.born == b)):=by
 unfold leftOf
 simp only [Array.toList_filter,List.filter_filter]
 apply List.filter_congr
 intro x _
 simp only [Array.contains_push]
 cases h1:seen.contains x.born <;> cases h2:(x.born == b) <;> simp_all
theorem leftOf_nil (es:Array MapEntry):(leftOf es #[]).toList=es.toList:=by
 unfold leftOf
 simp
theorem leftOf_nodup {es:Array MapEntry} (h:(es.toList.map (·.born)).Nodup) (seen:Array Nat):((leftOf es seen).toList.map (·.born)).Nodup:=by
 unfold leftOf
 rw [Array.toList_filter]
 exact (List.filter_sublist.map _).nodup h
theorem sum_strike (f:MapEntry→Nat):∀ (l:List MapEntry) (e:MapEntry),e∈l→(l.map (·.born)).Nodup→(l.map f).sum=f e+((l.filter fun x=>!(x.born == e.born)).map f).sum∧(l.filter fun x=>!(x.born == e.born)).length+1=l.length:=by
 intro l
 induction l with
 | nil=>intro e he; cases he
 | cons x l ih =>
   intro e he hn
   simp only [List.map_cons,List.nodup_cons] at hn
   rcases List.mem_cons.1 he with rfl | he
   ·
    have hno:l.filter (fun x=>!(x.born == e.born))=l:=by
     rw [List.filter_eq_self]
     intro y hy
     simp only [Bool.not_eq_true',beq_eq_false_iff_ne]
     intro h; exact hn.1 (h ▸ List.mem_map.2 ⟨y,hy,rfl⟩)
    rw [List.filter_cons_of_neg (by simp),hno]
    exact ⟨by simp,rfl⟩
   ·
    have hne:(x.born == e.born)=false:=by
     rw [beq_eq_false_iff_ne]; intro h; exact hn.1 (h ▸ List.mem_map.2 ⟨e,he,rfl⟩)
    obtain ⟨h1,h2⟩:=ih e he hn.2
    rw [List.filter_cons_of_pos (by rw [hne]; rfl)]
    simp only [List.map_cons,List.sum_cons,List.length_cons,h1]
    exact ⟨by omega,by omega⟩
def wtL (fs:List (List UInt8×FileD)) (v:Value):Nat:=match v with
 | .pointer (some a)=>((fs.find? fun p=>p.2.blk == a.block).map (·.2.now.length)).getD 0
 | _=>0
theorem find_blk:∀ (fs:List (List UInt8×FileD)),(fs.map (·.2.blk)).Nodup→∀ p∈fs,fs.find? (fun q=>q.2.blk == p.2.blk)=some p:=by
 intro fs
 induction fs with
 | nil=>intro _ p hp; cases hp
 | cons x l ih =>
   intro hn p hp
   simp only [List.map_cons,List.nodup_cons] at hn
   rcases List.mem_cons.1 hp with rfl | hp
   · simp
   · have hne:(x.2.blk == p.2.blk)=false:=by
      rw [beq_eq_false_iff_ne]; intro h; exact hn.1 (h ▸ List.mem_map.2 ⟨p,hp,rfl⟩)
     rw [List.find?_cons,hne]
     exact ih hn.2 p hp
theorem sum_wt {fs:List (List UInt8×FileD)} {l:List MapEntry} (hn:(fs.map (·.2.blk)).Nodup) (h:l.map (fun e:MapEntry=>(e.key,e.val))=fs.map (fun p=>(Value.string (S p.1),Value.pointer (some ⟨p.2.blk,0,none⟩)))) :
 (l.map fun e=>wtL fs e.val).sum=sizeL fs:=by
 have h2:l.map (fun e=>wtL fs e.val)=(l.map (fun e:MapEntry=>(e.key,e.val))).map (fun q=>wtL fs q.2):=by rw [List.map_map]; rfl
 rw [h2,h,List.map_map]
 unfold sizeL
 congr 1
 apply List.map_congr_left
 intro p hp
 show wtL fs (.pointer (some ⟨p.2.blk,0,none⟩))=_
 show ((fs.find? fun q=>q.2.blk == p.2.blk).map (·.2.now.length)).getD 0=_
 rw [find_blk fs hn p hp]; rfl
theorem entry_file {fs:List (List UInt8×FileD)} {l:List MapEntry} (h:l.map (fun e:MapEntry=>(e.key,e.val))=fs.map (fun p=>(Value.string (S p.1),Value.pointer (some ⟨p.2.blk,0,none⟩)))) {e:MapEntry} (he:e∈l) :
 ∃ p∈fs,e.key=.string (S p.1)∧e.val=.pointer (some ⟨p.2.blk,0,none⟩):=by
 have:(e.key,e.val)∈fs.map (fun p=>(Value.string (S p.1),Value.pointer (some ⟨p.2.blk,0,none⟩))):=by rw [← h]; exact List.mem_map.2 ⟨e,he,rfl⟩
 obtain ⟨p,hp,hq⟩:=List.mem_map.1 this
 exact ⟨p,hp,(Prod.mk.inj hq).1.symm,(Prod.mk.inj hq).2.symm⟩
structure Iter (w:World) (b r:Nat) (es:Array MapEntry) (clk:Nat) (seen:Array Nat):Prop where
 map:w.heap[b]?=some (.map es clk)
 iter:w.heap[r]?=some (.mapIter (some b) clk seen clk)
theorem iter_next {w:World} {b r:Nat} {es:Array MapEntry} {clk:Nat} {seen:Array Nat} (h:Iter w b r es clk seen) (hne:r≠b) (hst:Stamped es clk) (P:Program) (ty:TypeId) :
 ((leftOf es seen).size=0∧(Instr.next (.pointer (some ⟨r,0,none⟩)) false ty).run P w=.ok (.tuple #[.bool false]) w) ∨
 ∃ e∈(leftOf es seen).toList,∃ w1:World,Iter w1 b r es clk (seen.push e.born)∧Mod (fun k=>k=r) w w1∧(Instr.next (.pointer (some ⟨r,0,none⟩)) false ty).run P w=.ok (.tuple #[.bool true,e.key,e.val]) w1 ∧
  (Instr.entry (.pointer (some ⟨r,0,none⟩))).run P w1=.ok (.tuple #[e.key,e.val]) w1:=by
 rcases run_next_at (P:=P) w ty r b clk clk seen es clk h.iter h.map hst.1 (Nat.le_refl _) with h0 | ⟨e,he,w1,hw1,hrun⟩
 · exact .inl h0
 ·
  right
  have hr1:w1.heap[r]?=some (.mapIter (some b) clk seen clk):=by rcases hw1 with rfl | rfl <;> exact h.iter
  have hb1:w1.heap[b]?=some (.map es clk):=by rcases hw1 with rfl | rfl <;> exact h.map
  have hrl:r < w1.heap.size:=(Array.getElem?_eq_some_iff.1 hr1).1
  have hi:Iter (setBlock w1 r (.mapIter (some b) clk (seen.push e.born) clk)) b r es clk (seen.push e.born):=by
   refine ⟨?_,?_⟩
   · show (w1.heap.setIfInBounds r _)[b]?=_
     rw [Array.getElem?_setIfInBounds_ne hne]; exact hb1
   · show (w1.heap.setIfInBounds r _)[r]?=_
     simp [hrl]
  have hee:e∈es.toList:=by
   unfold leftOf at he
   rw [Array.toList_filter] at he
   exact (List.mem_filter.1 he).1
  refine ⟨e,he,_,hi,?_,hrun,run_entry_at _ r b clk seen es clk e hi.iter hi.map hee hst.2.1⟩
  have hm1:Mod (fun k=>k=r) w w1:=by
   rcases hw1 with rfl | rfl
   · exact Mod.refl _ _
   · exact (Mod.refl _ _).drew
  refine hm1.trans ⟨rfl,rfl,rfl,by simp [setBlock],fun k hk hkr=>?_⟩
  show (w1.heap.setIfInBounds r _)[k]?=_
  exact Array.getElem?_setIfInBounds_ne (fun e=>hkr e.symm)
theorem size_any {base:Nat} {D:DiskD} (w:World) (h:DiskAt base w D) :
 Calls Tryz.prog 10 #[.pointer (some ⟨D.blk,0,none⟩)] w fun e w'=>e=.returned (.int .i64 (D.size:Int))∧Below w.heap.size w w':=by
 have c2:w.cell? ⟨D.blk,2,none⟩=some (.map (some D.mB)):=h.cell 2 _ rfl
 obtain ⟨es,clk,hb,hst,hmap⟩:=h.map
 have hm:=Tryz.underlying75
 have hrg:(Instr.range 75 (.map (some D.mB))).run Tryz.prog w=.ok (.pointer (some ⟨w.heap.size,0,none⟩)) (w.alloc (.mapIter (some D.mB) clk #[] clk)):=by
  simp [Instr.range,run_underlying hm,Go.MapKept.run_getObj_map hb,Result.andThen]
 have HD:=Lib.hid h
 clear h
 go_enter Tryz.func10,Tryz.ntmps10
 go_wp2_with fail
 have hlt:D.mB < w.heap.size:=(Array.getElem?_eq_some_iff.1 hb).1
 have HS:Hid ((es.toList.map fun e=>wtL D.files e.val).sum=D.size):=sum_wt HD.out.blocks hmap
 have HM:=Lib.hid hmap
 have HI:Hid (Iter (w.alloc (.mapIter (some D.mB) clk #[] clk)) D.mB w.heap.size es clk #[]):=⟨(Below.heap_alloc _ _ _ (by omega)).trans hb,heap_alloc_new _ _⟩
 have HB:Hid (Below w.heap.size w (w.alloc (.mapIter (some D.mB) clk #[] clk))):=(Below.refl _ _).alloc (Nat.le_refl _) _
 have HST:=Lib.hid hst
 have hfit:(D.size:Int)≤16777216:=by have h1:=HD.out.fits; have h2:=HD.out.ints; omega
 clear hmap hb hst hm hrg
 generalize w.alloc (.mapIter (some D.mB) clk #[] clk)=w1 at *
 generalize hr:w.heap.size=r at *
 have hwr:w.heap.size=r:=hr
 clear hr
 obtain ⟨sz,hsz⟩:∃ s,D.size=s:=⟨_,rfl⟩
 rw [hsz] at HS hfit
 have HSZ:=Lib.hid hsz
 clear hsz
 go_loopw [3] (fun i wr=>∃ (seen:Array Nat) (k:Nat),i=.int .i64 (k:Int)∧Hid (k+((leftOf es seen).toList.map fun e=>wtL D.files e.val).sum=sz)∧Hid (Iter wr D.mB r es clk seen)∧Hid (Below r w wr)) (fun _ wr=>match wr.heap[D.mB]?,wr.heap[r]? with | some (.map es _),some (.mapIter _ _ seen _)=>(leftOf es seen).size | _,_=>0)
 case atStart=>exact ⟨#[],0,rfl,by show _=_; rw [leftOf_nil,HS.out]; omega,HI.out,HB.out⟩
 case round =>
  obtain ⟨seen,k,rfl,HK,HI2,HB2⟩:=hrel
  clear HI HB
  rcases iter_next HI2.out (by omega) HST.out Tryz.prog 0 with ⟨h0,hrun⟩ | ⟨e,he,w2,hi,hm,hrun,hent⟩
  ·
   have hnil:(leftOf es seen).toList=[]:=by rw [← List.length_eq_zero_iff,Array.length_toList]; exact h0
   have HKS:Hid (k=sz):=by show _=_; have:=HK.out; rw [hnil] at this; simpa using this
   clear HK hnil h0 HI2 HST
   go_wp2_with fail
   go_ret
   rw [HSZ.out,HKS.out]
   exact ⟨rfl,by rw [hwr]; exact HB2.out⟩
  ·
   have hmem:e∈es.toList:=by
    unfold leftOf at he
    rw [Array.toList_filter] at he
    exact (List.mem_filter.1 he).1
   obtain ⟨p,hp,hkey,hval⟩:=entry_file HM.out hmem
   have hmb:Below r wr w2:=hm.to_below r (by have:=HB2.out.size; omega) (fun k hk=>by omega)
   have HB3:=Lib.hid (HB2.out.trans hmb)
   have hc:w2.cell? ⟨p.2.blk,1,none⟩=some (.string (S p.2.now)):=by
    have:=(HD.out.below (hwr ▸ HB3.out)).file p hp
    unfold World.cell?; rw [show w2.heap[(⟨p.2.blk,1,none⟩:Addr).block]?=_ from this]; rfl
   have hw:wtL D.files e.val=p.2.now.length:=by
    rw [hval]
    show ((D.files.find? fun q=>q.2.blk == p.2.blk).map (·.2.now.length)).getD 0=_
    rw [find_blk D.files HD.out.blocks p hp]; rfl
   obtain ⟨s1,s2⟩:=sum_strike (fun e=>wtL D.files e.val) _ e he (leftOf_nodup HST.out.2.1 seen)
   rw [← leftOf_push] at s1 s2
   have HK2:Hid (k+p.2.now.length+((leftOf es (seen.push e.born)).toList.map fun e=>wtL D.files e.val).sum=sz):=by show _=_; have:=HK.out; omega
   have HS2:Hid ((leftOf es (seen.push e.born)).size < (leftOf es seen).size):=by show _ < _; rw [← Array.length_toList,← Array.length_toList]; omega
   have HI3:=Lib.hid hi
   have hkb:(k:Int)+(p.2.now.length:Int)≤16777216:=by have:=HK2.out; omega
   have hsz:=S_size
   rw [hkey,hval] at hrun hent
   clear he hmem hkey hval hw s1 s2 HK hi hm hmb
   generalize p.2.now=nw at *
   generalize p.2.blk=pb at *
   go_wp2_with fail
   go_roundw
   case rel=>exact ⟨seen.push e.born,k+nw.length,by go_num,HK2,HI3,HB3⟩
   case measure =>
    rw [HI3.out.map,HI3.out.iter,HI2.out.map,HI2.out.iter]
    exact HS2.out
def Ext (u v:World):Prop:=Below u.heap.size u v
theorem Ext.refl (w:World):Ext w w:=Below.refl _ _
theorem Ext.trans {u v w:World} (h:Ext u v) (k:Ext v w):Ext u w:=Below.trans h (Below.mono k h.size)
def DiskD.room (D:DiskD):Int:=D.cap - (D.size:Int)
theorem room_any {base:Nat} {D:DiskD} (w:World) (h:DiskAt base w D) :
 Calls Tryz.prog 13 #[.pointer (some ⟨D.blk,0,none⟩)] w fun e w'=>e=.returned (.int .i64 D.room)∧Below w.heap.size w w':=by
 have HD:=Lib.hid h
 have HR:Hid (D.room=D.cap - (D.size:Int)):=rfl
 have h1:=h.ints.2.2
 have h2:=h.fits
 have hwr:IntKind.i64.wrap (D.cap - (D.size:Int))=D.cap - (D.size:Int):=IntWalk.i64_in _ (by omega)
 clear h
 go_enter Tryz.func13,Tryz.ntmps13
 go_wp2_with fail
 refine Grow.wp_region_g 8 [none,none,none,some (.inl (.int .i64 D.cap)),none,some (.inl (.int .i64 (D.size:Int))),none,none] Ext (by kernel_rfl) (by kernel_rfl) (by kernel_rfl) Ext.refl (fun _ _ _=>Ext.trans) ?_ ?_
 · intro K hK Y hY v w w' hR h
   simp only [List.mem_cons,List.not_mem_nil,or_false] at hK
   rcases hK with rfl | rfl | rfl | rfl | rfl | rfl | rfl | rfl <;> simp only [reduceCtorEq,Option.some.injEq,Sum.inr.injEq] at hY
 simp only [List.take_succ_cons,List.take_zero,List.drop_succ_cons,List.drop_zero]
 iterate 3
  refine Grow.g_det rfl ?_
  apply Exists.intro
  refine ⟨fun w2 hw hF=>?_,?_⟩
  · clear hF
    go_simp
    exact ⟨rfl,Ext.refl _⟩
  go_frame
 refine Grow.g_con rfl (fun w2 hw hF=>?_) ?_
 ·
  clear hF
  have c4:w2.cell? ⟨D.blk,4,none⟩=some (.int .i64 D.cap):=(HD.out.below ((Below.refl _ _).drew.trans hw)).cell 4 _ rfl
  go_simp
  all_goals exact Ext.refl _
 go_frame
 refine Grow.g_det rfl ?_
 apply Exists.intro
 refine ⟨fun w2 hw hF=>?_,?_⟩
 · clear hF
   go_simp
   exact ⟨rfl,Ext.refl _⟩
 go_frame
 refine Grow.g_con rfl (fun w2 hw hF=>?_) ?_
 · clear hF
   go_simp
   exact (size_any w2 (HD.out.below ((Below.refl _ _).drew.trans hw))).mono fun e w3 h=>⟨_,h.1,rfl,h.2⟩
 iterate 2
  go_frame
  refine Grow.g_det rfl ?_
  apply Exists.intro
  refine ⟨fun w2 hw hF=>?_,?_⟩
  · clear hF
    go_simp
    exact ⟨rfl,Ext.refl _⟩
 go_frame
 refine Grow.g_nil fun w3 hw3 hF=>?_
 clear hF
 refine wpList_nil ?_
 have HB:=Lib.hid ((Below.refl w.heap.size w).drew.trans hw3)
 clear hw3
 go_wp2_with fail
 go_ret
 rw [HR.out]
 exact ⟨rfl,HB.out⟩
end Go.Proofs.YtnoehodmmkioaaaGreatDoor.DskW
