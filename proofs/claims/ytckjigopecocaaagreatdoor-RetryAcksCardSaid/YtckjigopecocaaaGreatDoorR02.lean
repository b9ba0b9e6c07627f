/- DERIVED: THE SHELF's CONTRACTS AT THIS DUMP, IN PLAIN WORDS (tools/lay-plain.mjs out of 'TryzShelf.lean', which tools/la And what follows. -/
import Derived.Shelf.SlIter.Sorted
import Derived.Ground.GgzProg
import Derived.Shelf.SlicesE.DeleteFunc
import Derived.Ground.SlgfProg
import Derived.Shelf.Strings.Builder2
import Derived.Shelf.Strings.Trim
import Derived.Shelf.Small.Utf8
import Derived.Shelf.Small.Bits
import Derived.Shelf.Small.Strs
import Derived.Shelf.Small.Wraps
import Derived.Shelf.Strings.BuilderF
import Derived.Shelf.Strconv.Atoi
import Derived.Shelf.Strconv.Itoa0
import Derived.Shelf.Strconv.Itoa1
import Derived.Shelf.LaysM
import Derived.Shelf.Strconv.Itoa2
import Derived.Shelf.Strconv.Itoa3
import Derived.Shelf.Strconv.AtoiErrFast
import Derived.Shelf.Strconv.ParseIntEmpty
import Derived.Shelf.Strconv.AtoiFail
import Derived.Shelf.Strconv.Clone
import Derived.Shelf.Strconv.SyntaxError
import Derived.Shelf.LaysC
import Derived.Shelf.Strconv.ToError
import Derived.Shelf.Strconv.Lower
import Derived.Shelf.Strconv.ParseUint10
import Derived.Shelf.Strconv.ParseUint10Empty
import Derived.Shelf.Strconv.ParseUint10Any
import Derived.Shelf.Strconv.ParseInt10
import Derived.Shelf.Strconv.AtoiLong
import Derived.Shelf.Strconv.AtoiInnerAll
import Derived.Shelf.Strconv.RangeError
import Derived.Shelf.Strconv.ToErrorRange
import Derived.Shelf.Strconv.AtoiAll
import Derived.Shelf.Strings.Search1
import Derived.Shelf.Sort.Plain
import Derived.Ground.GgwProg
import Derived.Shelf.GgClosure.StringsIndexFuncTop
import Derived.Shelf.GgClosure.StringsRunes
import Derived.Shelf.Strings.Prefix
import Derived.Shelf.Strings.Runes
import Derived.Shelf.Strings.AsciiSet
import Derived.Shelf.Bits.Mul64
import Derived.Shelf.Strings.Repeat
import Derived.Shelf.Unicode.DecodeSlow
import Derived.Shelf.Unicode.DecodeAny
import Derived.Shelf.Unicode.DecodeLast
import Derived.Shelf.Strings.FuncGrows
import Derived.Shelf.Slices.Turned
import Derived.Shelf.Slices.Equal
import Derived.Ground.Names2Prog
import Derived.Shelf.Slices.Clone
import Derived.Shelf.Slices.CompactS
import Derived.Shelf.Slices.SearchI
import Derived.Shelf.Slices.Cells
import Derived.Shelf.Slices.In.SortNone
import Derived.Shelf.Slices.Empties
import Derived.Shelf.Slices.Empties2
import Derived.Ground.SlgnProg
import Derived.Shelf.SlicesE.Equal
import Derived.Shelf.SlicesE.Compact
import Derived.Shelf.SlicesE.Clone
import Derived.Shelf.SlicesE.IndexFunc
import Derived.Test.YtckjigopecocaaaGreatDoorR01
import Derived.Lib.ItoaMem
import Derived.Shelf.Strings.SlTrimAscii
import Derived.Lib.LaidTab
import Derived.Lib.AppendIntMem
import Derived.Laws.OwnMore
import Derived.Laws.AppendOwn
import Derived.MapKept
import Derived.Deep.DeepCutAuto
import Derived.Maps.RangeRun
import Derived.Lib.AppendZerosOnto
import Derived.Lib.LazyBuf
set_option linter.unusedVariables false
set_option linter.unusedSimpArgs false
set_option maxHeartbeats 25600000
set_option maxRecDepth 100000
namespace Go.Proofs
open Go.Shelf
def Tryz.lays169_ren:Go.Shelf.Ren:=⟨λ| 169=>183 | n=>n,λ| 70=>271 | 9=>9 | 0=>0 | 72=>273 | 37=>241 | 127=>328 | 3=>3 | 5=>5 | n=>n,λ| n=>n⟩
theorem Tryz.lays169:Go.Proofs.Lays.n169 Tryz.prog Tryz.lays169_ren:={
 mixed:=by kernel_rfl
 f169:=Tryz.func183.trans (congrArg some (by kernel_rfl))
 t0:=Tryz.underlying0
 a0:=Tryz.isAgg0
 z0:=Tryz.sizeOf0
 v0:=Tryz.zeroValue0
 t3:=Tryz.underlying3
 a3:=Tryz.isAgg3
 z3:=Tryz.sizeOf3
 v3:=Tryz.zeroValue3
 t9:=Tryz.underlying9
 a9:=Tryz.isAgg9
 z9:=Tryz.sizeOf9
 v9:=Tryz.zeroValue9
 t37:=Tryz.underlying241
 a37:=Tryz.isAgg241
 z37:=Tryz.sizeOf241
 v37:=Tryz.zeroValue241
 t70:=Tryz.underlying271
 a70:=Tryz.isAgg271
 z70:=Tryz.sizeOf271
 v70:=Tryz.zeroValue271
 t72:=Tryz.underlying273
 a72:=Tryz.isAgg273
 z72:=Tryz.sizeOf273
 v72:=Tryz.zeroValue273
 t127:=Tryz.underlying328
 a127:=Tryz.isAgg328
 z127:=Tryz.sizeOf328
 v127:=Tryz.zeroValue328 }
theorem Tryz.Builder_Extra_169:Builder.Extra Tryz.prog Tryz.lays169_ren:={
 sizeBuilder:=by kernel_rfl
 liesBuilder:=by kernel_rfl
 t5:=Tryz.underlying5
 a5:=Tryz.isAgg5
 z5:=Tryz.sizeOf5
 v5:=Tryz.zeroValue5
 infoByte:=by kernel_rfl
 cellsByte:=by kernel_rfl
 sizeByte:=by kernel_rfl
 neB5:=by decide }
open Go.RowKit in
theorem Tryz.Builder_String_any (B b:Nat) (l:List UInt8) (w:World) (h:Lib.IsBuilder 273 5 B b (Lib.byteCells l) w) (hBw:B<=w.heap.size) :
 Calls Tryz.prog 183 #[.pointer (some ⟨b,0,none⟩)] w λe w'=>e=.returned (.string ⟨l.toArray⟩)/\Below B w w':=Any.Builder_String_any Tryz.lays169 Tryz.Builder_Extra_169 B b l w h hBw
def Tryz.lays160_ren:Go.Shelf.Ren:=⟨λ| 160=>276 | 232=>286 | 231=>285 | 227=>287 | 234=>289 | 233=>288 | 236=>291 | 235=>290 | 228=>303 | 271=>306 | 151=>305 | 197=>304 | 120=>319 | 152=>318 | 260=>317 | 137=>325 | 119=>326 | 224=>327 | 225=>328 | 217=>331 | 266=>332 | n=>n,λ| 9=>9 | 4=>4 | 3=>3 | 5=>5 | 117=>374 | 116=>373 | 0=>0 | 124=>377 | 21=>21 | 105=>385 | 46=>135 | 119=>403 | 139=>406 | 138=>405 | n=>n,λ| 3=>4 | 4=>5 | n=>n⟩
theorem Tryz.lays160:Go.Proofs.Lays.n160 Tryz.prog Tryz.lays160_ren:={
 mixed:=by kernel_rfl
 f119:=Tryz.func326.trans (congrArg some (by kernel_rfl))
 f120:=Tryz.func319.trans (congrArg some (by kernel_rfl))
 f137:=Tryz.func325.trans (congrArg some (by kernel_rfl))
 f151:=Tryz.func305.trans (congrArg some (by kernel_rfl))
 f152:=Tryz.func318.trans (congrArg some (by kernel_rfl))
 f160:=Tryz.func276.trans (congrArg some (by kernel_rfl))
 f197:=Tryz.func304.trans (congrArg some (by kernel_rfl))
 f217:=Tryz.func331.trans (congrArg some (by kernel_rfl))
 f224:=Tryz.func327.trans (congrArg some (by kernel_rfl))
 f225:=Tryz.func328.trans (congrArg some (by kernel_rfl))
 f227:=Tryz.func287.trans (congrArg some (by kernel_rfl))
 f228:=Tryz.func303.trans (congrArg some (by kernel_rfl))
 f231:=Tryz.func285.trans (congrArg some (by kernel_rfl))
 f232:=Tryz.func286.trans (congrArg some (by kernel_rfl))
 f233:=Tryz.func288.trans (congrArg some (by kernel_rfl))
 f234:=Tryz.func289.trans (congrArg some (by kernel_rfl))
 f235:=Tryz.func290.trans (congrArg some (by kernel_rfl))
 f236:=Tryz.func291.trans (congrArg some (by kernel_rfl))
 f260:=Tryz.func317.trans (congrArg some (by kernel_rfl))
 f266:=Tryz.func332.trans (congrArg some (by kernel_rfl))
 f271:=Tryz.func306.trans (congrArg some (by kernel_rfl))
 t0:=Tryz.underlying0
 a0:=Tryz.isAgg0
 z0:=Tryz.sizeOf0
 v0:=Tryz.zeroValue0
 t3:=Tryz.underlying3
 a3:=Tryz.isAgg3
 z3:=Tryz.sizeOf3
 v3:=Tryz.zeroValue3
 t4:=Tryz.underlying4
 a4:=Tryz.isAgg4
 z4:=Tryz.sizeOf4
 v4:=Tryz.zeroValue4
 t5:=Tryz.underlying5
 a5:=Tryz.isAgg5
 z5:=Tryz.sizeOf5
 v5:=Tryz.zeroValue5
 t9:=Tryz.underlying9
 a9:=Tryz.isAgg9
 z9:=Tryz.sizeOf9
 v9:=Tryz.zeroValue9
 t21:=Tryz.underlying21
 a21:=Tryz.isAgg21
 z21:=Tryz.sizeOf21
 v21:=Tryz.zeroValue21
 t46:=Tryz.underlying135
 a46:=Tryz.isAgg135
 z46:=Tryz.sizeOf135
 v46:=Tryz.zeroValue135
 t105:=Tryz.underlying385
 a105:=Tryz.isAgg385
 z105:=Tryz.sizeOf385
 v105:=Tryz.zeroValue385
 t116:=Tryz.underlying373
 a116:=Tryz.isAgg373
 z116:=Tryz.sizeOf373
 t117:=Tryz.underlying374
 a117:=Tryz.isAgg374
 z117:=Tryz.sizeOf374
 v117:=Tryz.zeroValue374
 t119:=Tryz.underlying403
 a119:=Tryz.isAgg403
 z119:=Tryz.sizeOf403
 t124:=Tryz.underlying377
 a124:=Tryz.isAgg377
 z124:=Tryz.sizeOf377
 v124:=Tryz.zeroValue377
 t138:=Tryz.underlying405
 a138:=Tryz.isAgg405
 z138:=Tryz.sizeOf405
 v138:=Tryz.zeroValue405
 t139:=Tryz.underlying406
 a139:=Tryz.isAgg406
 z139:=Tryz.sizeOf406
 v139:=Tryz.zeroValue406
 g3:=by kernel_rfl
 g4:=by kernel_rfl }
def Tryz.lays125_ren:Go.Shelf.Ren:=⟨λ| 125=>132 | 128=>207 | 129=>208 | n=>n,λ| 46=>135 | 3=>3 | 51=>262 | 53=>297 | 4=>4 | 5=>5 | 9=>9 | n=>n,λ| n=>n⟩
theorem Tryz.lays125:Go.Proofs.Lays.n125 Tryz.prog Tryz.lays125_ren:={
 mixed:=by kernel_rfl
 f125:=Tryz.func132.trans (congrArg some (by kernel_rfl))
 f128:=Tryz.func207.trans (congrArg some (by kernel_rfl))
 f129:=Tryz.func208.trans (congrArg some (by kernel_rfl))
 t3:=Tryz.underlying3
 a3:=Tryz.isAgg3
 z3:=Tryz.sizeOf3
 v3:=Tryz.zeroValue3
 t4:=Tryz.underlying4
 a4:=Tryz.isAgg4
 z4:=Tryz.sizeOf4
 v4:=Tryz.zeroValue4
 t5:=Tryz.underlying5
 a5:=Tryz.isAgg5
 z5:=Tryz.sizeOf5
 v5:=Tryz.zeroValue5
 t9:=Tryz.underlying9
 a9:=Tryz.isAgg9
 z9:=Tryz.sizeOf9
 v9:=Tryz.zeroValue9
 t46:=Tryz.underlying135
 a46:=Tryz.isAgg135
 z46:=Tryz.sizeOf135
 v46:=Tryz.zeroValue135
 t51:=Tryz.underlying262
 a51:=Tryz.isAgg262
 z51:=Tryz.sizeOf262
 v51:=Tryz.zeroValue262
 t53:=Tryz.underlying297
 a53:=Tryz.isAgg297
 z53:=Tryz.sizeOf297
 v53:=Tryz.zeroValue297 }
theorem Tryz.bits_Len (x:Int) (w:World) (h0:0<=x) (h1:x<=18446744073709551615) :
 Calls Tryz.prog 132 #[.int .u64 x] w λe w'=>e=.returned (.int .i64 (Lib.bitLen x.toNat))/\w'=w:=Any.bits_Len Tryz.lays125 x w h0 h1
def Tryz.lays210_ren:Go.Shelf.Ren:=⟨λ| 210=>184 | 206=>231 | n=>n,λ| 9=>9 | 4=>4 | 3=>3 | n=>n,λ| n=>n⟩
def Tryz.lays103_ren:Go.Shelf.Ren:=⟨λ| 103=>108 | 210=>184 | 206=>231 | n=>n,λ| 9=>9 | 4=>4 | 24=>119 | 3=>3 | n=>n,λ| n=>n⟩
theorem Tryz.lays103:Go.Proofs.Lays.n103 Tryz.prog Tryz.lays103_ren:={
 mixed:=by kernel_rfl
 f103:=Tryz.func108.trans (congrArg some (by kernel_rfl))
 f206:=Tryz.func231.trans (congrArg some (by kernel_rfl))
 f210:=Tryz.func184.trans (congrArg some (by kernel_rfl))
 t3:=Tryz.underlying3
 a3:=Tryz.isAgg3
 z3:=Tryz.sizeOf3
 v3:=Tryz.zeroValue3
 t4:=Tryz.underlying4
 a4:=Tryz.isAgg4
 z4:=Tryz.sizeOf4
 v4:=Tryz.zeroValue4
 t9:=Tryz.underlying9
 a9:=Tryz.isAgg9
 z9:=Tryz.sizeOf9
 v9:=Tryz.zeroValue9
 t24:=Tryz.underlying119
 a24:=Tryz.isAgg119
 z24:=Tryz.sizeOf119
 v24:=Tryz.zeroValue119 }
open Go.RowKit in
theorem Tryz.strings_CutPrefix (s p:ByteArray) (w:World) :
 Calls Tryz.prog 108 #[.string s,.string p] w λe w'=>e=.returned (.tuple #[.string ⟨(Lib.trimPrefix s.data.toList p.data.toList).toArray⟩,.bool (Lib.hasPrefix s.data.toList p.data.toList)])/\w'=w:=Any.strings_CutPrefix Tryz.lays103 s p w
def Tryz.lays172_ren:Go.Shelf.Ren:=⟨λ| 172=>277 | 244=>292 | 245=>293 | 247=>307 | 279=>308 | 280=>309 | 281=>310 | 282=>311 | 287=>320 | 316=>321 | 171=>225 | 205=>322 | 321=>329 | 322=>330 | 243=>256 | 246=>278 | 283=>294 | 284=>295 | 285=>296 | 286=>297 | 129=>208 | 317=>312 | 318=>313 | 319=>314 | 320=>315 | 337=>323 | 338=>324 | n=>n,λ| 9=>9 | 3=>3 | 75=>275 | 76=>276 | 4=>4 | 5=>5 | 167=>388 | 37=>241 | 0=>0 | 85=>389 | 2=>2 | 168=>391 | 53=>297 | 175=>398 | 46=>135 | 210=>401 | 127=>328 | 145=>411 | 143=>409 | 21=>21 | 171=>379 | 173=>381 | 212=>395 | 51=>262 | 20=>20 | 213=>396 | 232=>412 | 233=>413 | 80=>279 | n=>n,λ| 15=>2 | 16=>3 | 17=>1 | 18=>6 | 19=>7 | n=>n⟩
def Tryz.laysM246_ren:Go.Shelf.Ren:=⟨λ| 246=>278 | 283=>294 | 284=>295 | 285=>296 | 286=>297 | 129=>208 | 317=>312 | 318=>313 | 319=>314 | 320=>315 | 337=>323 | 338=>324 | n=>n,λ| 2=>2 | 3=>3 | 9=>9 | 4=>4 | 171=>379 | 0=>0 | 53=>297 | 37=>241 | 5=>5 | 173=>381 | 212=>395 | 51=>262 | 20=>20 | 213=>396 | 46=>135 | 232=>412 | 233=>413 | n=>n,λ| 17=>1 | 18=>6 | 19=>7 | n=>n⟩
def Tryz.laysM243_ren:Go.Shelf.Ren:=⟨λ| 243=>256 | 246=>278 | 283=>294 | 284=>295 | 285=>296 | 286=>297 | 129=>208 | 317=>312 | 318=>313 | 319=>314 | 320=>315 | 337=>323 | 338=>324 | n=>n,λ| 3=>3 | 9=>9 | 2=>2 | 4=>4 | 171=>379 | 0=>0 | 53=>297 | 37=>241 | 5=>5 | 173=>381 | 212=>395 | 51=>262 | 20=>20 | 213=>396 | 46=>135 | 232=>412 | 233=>413 | n=>n,λ| 17=>1 | 18=>6 | 19=>7 | n=>n⟩
def Tryz.laysM171_ren:Go.Shelf.Ren:=⟨λ| 171=>225 | 243=>256 | 246=>278 | 283=>294 | 284=>295 | 285=>296 | 286=>297 | 129=>208 | 317=>312 | 318=>313 | 319=>314 | 320=>315 | 337=>323 | 338=>324 | n=>n,λ| 3=>3 | 9=>9 | 2=>2 | 4=>4 | 171=>379 | 0=>0 | 53=>297 | 37=>241 | 5=>5 | 173=>381 | 212=>395 | 51=>262 | 20=>20 | 213=>396 | 46=>135 | 232=>412 | 233=>413 | n=>n,λ| 17=>1 | 18=>6 | 19=>7 | n=>n⟩
theorem Tryz.laysM171:Go.Proofs.LaysM.n171 Tryz.prog Tryz.laysM171_ren:={
 mixed:=by kernel_rfl
 f129:=Tryz.func208.trans (congrArg some (by kernel_rfl))
 f171:=Tryz.func225.trans (congrArg some (by kernel_rfl))
 f243:=Tryz.func256.trans (congrArg some (by kernel_rfl))
 f246:=Tryz.func278.trans (congrArg some (by kernel_rfl))
 f283:=Tryz.func294.trans (congrArg some (by kernel_rfl))
 f284:=Tryz.func295.trans (congrArg some (by kernel_rfl))
 f285:=Tryz.func296.trans (congrArg some (by kernel_rfl))
 f286:=Tryz.func297.trans (congrArg some (by kernel_rfl))
 f317:=Tryz.func312.trans (congrArg some (by kernel_rfl))
 f318:=Tryz.func313.trans (congrArg some (by kernel_rfl))
 f319:=Tryz.func314.trans (congrArg some (by kernel_rfl))
 f320:=Tryz.func315.trans (congrArg some (by kernel_rfl))
 f337:=Tryz.func323.trans (congrArg some (by kernel_rfl))
 f338:=Tryz.func324.trans (congrArg some (by kernel_rfl))
 t0:=Tryz.underlying0
 a0:=Tryz.isAgg0
 z0:=Tryz.sizeOf0
 v0:=Tryz.zeroValue0
 t2:=Tryz.underlying2
 a2:=Tryz.isAgg2
 z2:=Tryz.sizeOf2
 v2:=Tryz.zeroValue2
 t3:=Tryz.underlying3
 a3:=Tryz.isAgg3
 z3:=Tryz.sizeOf3
 v3:=Tryz.zeroValue3
 t4:=Tryz.underlying4
 a4:=Tryz.isAgg4
 z4:=Tryz.sizeOf4
 v4:=Tryz.zeroValue4
 t5:=Tryz.underlying5
 a5:=Tryz.isAgg5
 z5:=Tryz.sizeOf5
 v5:=Tryz.zeroValue5
 t9:=Tryz.underlying9
 a9:=Tryz.isAgg9
 z9:=Tryz.sizeOf9
 v9:=Tryz.zeroValue9
 t20:=Tryz.underlying20
 a20:=Tryz.isAgg20
 z20:=Tryz.sizeOf20
 v20:=Tryz.zeroValue20
 t37:=Tryz.underlying241
 a37:=Tryz.isAgg241
 z37:=Tryz.sizeOf241
 v37:=Tryz.zeroValue241
 t46:=Tryz.underlying135
 a46:=Tryz.isAgg135
 z46:=Tryz.sizeOf135
 v46:=Tryz.zeroValue135
 t51:=Tryz.underlying262
 a51:=Tryz.isAgg262
 z51:=Tryz.sizeOf262
 v51:=Tryz.zeroValue262
 t53:=Tryz.underlying297
 a53:=Tryz.isAgg297
 z53:=Tryz.sizeOf297
 v53:=Tryz.zeroValue297
 t171:=Tryz.underlying379
 a171:=Tryz.isAgg379
 z171:=Tryz.sizeOf379
 v171:=Tryz.zeroValue379
 t173:=Tryz.underlying381
 a173:=Tryz.isAgg381
 z173:=Tryz.sizeOf381
 v173:=Tryz.zeroValue381
 t212:=Tryz.underlying395
 a212:=Tryz.isAgg395
 z212:=Tryz.sizeOf395
 v212:=Tryz.zeroValue395
 t213:=Tryz.underlying396
 a213:=Tryz.isAgg396
 z213:=Tryz.sizeOf396
 t232:=Tryz.underlying412
 a232:=Tryz.isAgg412
 z232:=Tryz.sizeOf412
 v232:=Tryz.zeroValue412
 t233:=Tryz.underlying413
 a233:=Tryz.isAgg413
 z233:=Tryz.sizeOf413
 v233:=Tryz.zeroValue413
 g17:=by kernel_rfl
 g18:=by kernel_rfl
 g19:=by kernel_rfl
 i0:=by kernel_rfl
 i2:=by kernel_rfl
 i3:=by kernel_rfl
 i4:=by kernel_rfl
 i5:=by kernel_rfl
 i9:=by kernel_rfl
 i20:=by kernel_rfl
 i37:=by kernel_rfl
 i46:=by kernel_rfl
 i51:=by kernel_rfl
 i53:=by kernel_rfl
 i171:=by kernel_rfl
 i173:=by kernel_rfl
 i212:=by kernel_rfl
 i232:=by kernel_rfl
 i233:=by kernel_rfl
 m17:=by kernel_rfl
 m18:=by kernel_rfl
 m19:=by kernel_rfl }
open Go.RowKit Go.Sort Go.Lib in
theorem Tryz.strconv_Itoa (n:Int) (h0 : -9223372036854775808<=n) (h1:n<=9223372036854775807) (w:World) (htab:Lib.TabIs Tryz.prog w "internal/strconv.uint64pow10" .u64 Lib.pow10Tab) :
 Calls Tryz.prog 225 #[.int .i64 n] w λe w'=>e=.returned (.string ⟨(Lib.itoa n).toArray⟩)/\∃ k os,w'=grow (w.drewN k) os:=Any.strconv_Itoa Tryz.laysM171 n h0 h1 w htab
def Tryz.laysC172_ren:Go.Shelf.Ren:=⟨λ| 172=>277 | 244=>292 | 245=>293 | 247=>307 | 279=>308 | 280=>309 | 281=>310 | 282=>311 | 287=>320 | 316=>321 | 171=>225 | 205=>322 | 321=>329 | 322=>330 | 243=>256 | 246=>278 | 283=>294 | 284=>295 | 285=>296 | 286=>297 | 129=>208 | 317=>312 | 318=>313 | 319=>314 | 320=>315 | 337=>323 | 338=>324 | n=>n,λ| 9=>9 | 3=>3 | 75=>275 | 76=>276 | 4=>4 | 5=>5 | 167=>388 | 37=>241 | 0=>0 | 85=>389 | 2=>2 | 168=>391 | 53=>297 | 175=>398 | 46=>135 | 210=>401 | 127=>328 | 145=>411 | 143=>409 | 21=>21 | 171=>379 | 173=>381 | 212=>395 | 51=>262 | 20=>20 | 213=>396 | 232=>412 | 233=>413 | 80=>279 | n=>n,λ| 15=>2 | 16=>3 | 17=>1 | 18=>6 | 19=>7 | n=>n⟩
theorem Tryz.laysC172:Go.Proofs.LaysC.n172 Tryz.prog Tryz.laysC172_ren:={
 mixed:=by kernel_rfl
 f129:=Tryz.func208.trans (congrArg some (by kernel_rfl))
 f171:=Tryz.func225.trans (congrArg some (by kernel_rfl))
 f172:=Tryz.func277.trans (congrArg some (by kernel_rfl))
 f205:=Tryz.func322.trans (congrArg some (by kernel_rfl))
 f243:=Tryz.func256.trans (congrArg some (by kernel_rfl))
 f244:=Tryz.func292.trans (congrArg some (by kernel_rfl))
 f245:=Tryz.func293.trans (congrArg some (by kernel_rfl))
 f246:=Tryz.func278.trans (congrArg some (by kernel_rfl))
 f247:=Tryz.func307.trans (congrArg some (by kernel_rfl))
 f279:=Tryz.func308.trans (congrArg some (by kernel_rfl))
 f280:=Tryz.func309.trans (congrArg some (by kernel_rfl))
 f281:=Tryz.func310.trans (congrArg some (by kernel_rfl))
 f282:=Tryz.func311.trans (congrArg some (by kernel_rfl))
 f283:=Tryz.func294.trans (congrArg some (by kernel_rfl))
 f284:=Tryz.func295.trans (congrArg some (by kernel_rfl))
 f285:=Tryz.func296.trans (congrArg some (by kernel_rfl))
 f286:=Tryz.func297.trans (congrArg some (by kernel_rfl))
 f287:=Tryz.func320.trans (congrArg some (by kernel_rfl))
 f316:=Tryz.func321.trans (congrArg some (by kernel_rfl))
 f317:=Tryz.func312.trans (congrArg some (by kernel_rfl))
 f318:=Tryz.func313.trans (congrArg some (by kernel_rfl))
 f319:=Tryz.func314.trans (congrArg some (by kernel_rfl))
 f320:=Tryz.func315.trans (congrArg some (by kernel_rfl))
 f321:=Tryz.func329.trans (congrArg some (by kernel_rfl))
 f322:=Tryz.func330.trans (congrArg some (by kernel_rfl))
 f337:=Tryz.func323.trans (congrArg some (by kernel_rfl))
 f338:=Tryz.func324.trans (congrArg some (by kernel_rfl))
 t0:=Tryz.underlying0
 a0:=Tryz.isAgg0
 z0:=Tryz.sizeOf0
 v0:=Tryz.zeroValue0
 t2:=Tryz.underlying2
 a2:=Tryz.isAgg2
 z2:=Tryz.sizeOf2
 v2:=Tryz.zeroValue2
 t3:=Tryz.underlying3
 a3:=Tryz.isAgg3
 z3:=Tryz.sizeOf3
 v3:=Tryz.zeroValue3
 t4:=Tryz.underlying4
 a4:=Tryz.isAgg4
 z4:=Tryz.sizeOf4
 v4:=Tryz.zeroValue4
 t5:=Tryz.underlying5
 a5:=Tryz.isAgg5
 z5:=Tryz.sizeOf5
 v5:=Tryz.zeroValue5
 t9:=Tryz.underlying9
 a9:=Tryz.isAgg9
 z9:=Tryz.sizeOf9
 v9:=Tryz.zeroValue9
 t20:=Tryz.underlying20
 a20:=Tryz.isAgg20
 z20:=Tryz.sizeOf20
 v20:=Tryz.zeroValue20
 t21:=Tryz.underlying21
 a21:=Tryz.isAgg21
 z21:=Tryz.sizeOf21
 v21:=Tryz.zeroValue21
 t37:=Tryz.underlying241
 a37:=Tryz.isAgg241
 z37:=Tryz.sizeOf241
 v37:=Tryz.zeroValue241
 t46:=Tryz.underlying135
 a46:=Tryz.isAgg135
 z46:=Tryz.sizeOf135
 v46:=Tryz.zeroValue135
 t51:=Tryz.underlying262
 a51:=Tryz.isAgg262
 z51:=Tryz.sizeOf262
 v51:=Tryz.zeroValue262
 t53:=Tryz.underlying297
 a53:=Tryz.isAgg297
 z53:=Tryz.sizeOf297
 v53:=Tryz.zeroValue297
 t75:=Tryz.underlying275
 a75:=Tryz.isAgg275
 z75:=Tryz.sizeOf275
 v75:=Tryz.zeroValue275
 t76:=Tryz.underlying276
 a76:=Tryz.isAgg276
 z76:=Tryz.sizeOf276
 v76:=Tryz.zeroValue276
 t85:=Tryz.underlying389
 a85:=Tryz.isAgg389
 z85:=Tryz.sizeOf389
 v85:=Tryz.zeroValue389
 t127:=Tryz.underlying328
 a127:=Tryz.isAgg328
 z127:=Tryz.sizeOf328
 v127:=Tryz.zeroValue328
 t143:=Tryz.underlying409
 a143:=Tryz.isAgg409
 z143:=Tryz.sizeOf409
 v143:=Tryz.zeroValue409
 t145:=Tryz.underlying411
 a145:=Tryz.isAgg411
 z145:=Tryz.sizeOf411
 v145:=Tryz.zeroValue411
 t167:=Tryz.underlying388
 a167:=Tryz.isAgg388
 z167:=Tryz.sizeOf388
 v167:=Tryz.zeroValue388
 t168:=Tryz.underlying391
 a168:=Tryz.isAgg391
 z168:=Tryz.sizeOf391
 v168:=Tryz.zeroValue391
 t171:=Tryz.underlying379
 a171:=Tryz.isAgg379
 z171:=Tryz.sizeOf379
 v171:=Tryz.zeroValue379
 t173:=Tryz.underlying381
 a173:=Tryz.isAgg381
 z173:=Tryz.sizeOf381
 v173:=Tryz.zeroValue381
 t175:=Tryz.underlying398
 a175:=Tryz.isAgg398
 z175:=Tryz.sizeOf398
 v175:=Tryz.zeroValue398
 t210:=Tryz.underlying401
 a210:=Tryz.isAgg401
 z210:=Tryz.sizeOf401
 v210:=Tryz.zeroValue401
 t212:=Tryz.underlying395
 a212:=Tryz.isAgg395
 z212:=Tryz.sizeOf395
 v212:=Tryz.zeroValue395
 t213:=Tryz.underlying396
 a213:=Tryz.isAgg396
 z213:=Tryz.sizeOf396
 t232:=Tryz.underlying412
 a232:=Tryz.isAgg412
 z232:=Tryz.sizeOf412
 v232:=Tryz.zeroValue412
 t233:=Tryz.underlying413
 a233:=Tryz.isAgg413
 z233:=Tryz.sizeOf413
 v233:=Tryz.zeroValue413
 g15:=by kernel_rfl
 g16:=by kernel_rfl
 g17:=by kernel_rfl
 g18:=by kernel_rfl
 g19:=by kernel_rfl
 t80:=Tryz.underlying279
 a80:=Tryz.isAgg279
 z80:=Tryz.sizeOf279
 v80:=Tryz.zeroValue279
 i0:=by kernel_rfl
 i2:=by kernel_rfl
 i3:=by kernel_rfl
 i4:=by kernel_rfl
 i5:=by kernel_rfl
 i9:=by kernel_rfl
 i20:=by kernel_rfl
 i21:=by kernel_rfl
 i37:=by kernel_rfl
 i46:=by kernel_rfl
 i51:=by kernel_rfl
 i53:=by kernel_rfl
 i75:=by kernel_rfl
 i76:=by kernel_rfl
 i80:=by kernel_rfl
 i85:=by kernel_rfl
 i127:=by kernel_rfl
 i143:=by kernel_rfl
 i145:=by kernel_rfl
 i167:=by kernel_rfl
 i168:=by kernel_rfl
 i171:=by kernel_rfl
 i173:=by kernel_rfl
 i175:=by kernel_rfl
 i210:=by kernel_rfl
 i212:=by kernel_rfl
 i232:=by kernel_rfl
 i233:=by kernel_rfl
 m15:=by kernel_rfl
 m16:=by kernel_rfl
 m17:=by kernel_rfl
 m18:=by kernel_rfl
 m19:=by kernel_rfl
 c0:=by kernel_rfl
 c2:=by kernel_rfl
 c3:=by kernel_rfl
 c4:=by kernel_rfl
 c5:=by kernel_rfl
 c9:=by kernel_rfl
 c20:=by kernel_rfl
 c21:=by kernel_rfl
 c37:=by kernel_rfl
 c46:=by kernel_rfl
 c51:=by kernel_rfl
 c53:=by kernel_rfl
 c75:=by kernel_rfl
 c76:=by kernel_rfl
 c80:=by kernel_rfl
 c85:=by kernel_rfl
 c127:=by kernel_rfl
 c143:=by kernel_rfl
 c145:=by kernel_rfl
 c167:=by kernel_rfl
 c168:=by kernel_rfl
 c171:=by kernel_rfl
 c173:=by kernel_rfl
 c175:=by kernel_rfl
 c210:=by kernel_rfl
 c212:=by kernel_rfl
 c213:=by kernel_rfl
 c232:=by kernel_rfl
 c233:=by kernel_rfl }
open Go.RowKit in
theorem Tryz.strconv_Atoi_ok (s:ByteArray) (hmax:s.size<=9223372036854775806) (v:Int) (h:Lib.atoiAll s.data.toList=.ok v) (w:World) :
 Calls Tryz.prog 277 #[.string s] w λe w'=>e=.returned (.tuple #[.int .i64 v,.nilIface])/\(w'=w\/∃ t,w'=Lib.bytesWorld w 5 t):=Any.strconv_Atoi_ok Tryz.laysC172 s hmax v h w
def Tryz.lays190_ren:Go.Shelf.Ren:=⟨λ| 190=>186 | 125=>132 | 258=>240 | 128=>207 | 129=>208 | 302=>262 | 303=>263 | 304=>264 | 305=>265 | 306=>266 | 307=>267 | 308=>268 | 309=>269 | 310=>270 | 333=>281 | 329=>247 | 330=>248 | 334=>282 | 335=>283 | 336=>129 | 344=>302 | n=>n,λ| 31=>32 | 9=>9 | 3=>3 | 46=>135 | 0=>0 | 51=>262 | 53=>297 | 4=>4 | 183=>290 | 182=>289 | 131=>84 | 5=>5 | 218=>334 | 222=>338 | 228=>357 | 229=>358 | n=>n,λ| n=>n⟩
theorem Tryz.lays190:Go.Proofs.Lays.n190 Tryz.prog Tryz.lays190_ren:={
 mixed:=by kernel_rfl
 f125:=Tryz.func132.trans (congrArg some (by kernel_rfl))
 f128:=Tryz.func207.trans (congrArg some (by kernel_rfl))
 f129:=Tryz.func208.trans (congrArg some (by kernel_rfl))
 f190:=Tryz.func186.trans (congrArg some (by kernel_rfl))
 f258:=Tryz.func240.trans (congrArg some (by kernel_rfl))
 f302:=Tryz.func262.trans (congrArg some (by kernel_rfl))
 f303:=Tryz.func263.trans (congrArg some (by kernel_rfl))
 f304:=Tryz.func264.trans (congrArg some (by kernel_rfl))
 f305:=Tryz.func265.trans (congrArg some (by kernel_rfl))
 f306:=Tryz.func266.trans (congrArg some (by kernel_rfl))
 f307:=Tryz.func267.trans (congrArg some (by kernel_rfl))
 f308:=Tryz.func268.trans (congrArg some (by kernel_rfl))
 f309:=Tryz.func269.trans (congrArg some (by kernel_rfl))
 f310:=Tryz.func270.trans (congrArg some (by kernel_rfl))
 f329:=Tryz.func247.trans (congrArg some (by kernel_rfl))
 f330:=Tryz.func248.trans (congrArg some (by kernel_rfl))
 f333:=Tryz.func281.trans (congrArg some (by kernel_rfl))
 f334:=Tryz.func282.trans (congrArg some (by kernel_rfl))
 f335:=Tryz.func283.trans (congrArg some (by kernel_rfl))
 f336:=Tryz.func129.trans (congrArg some (by kernel_rfl))
 f344:=Tryz.func302.trans (congrArg some (by kernel_rfl))
 t0:=Tryz.underlying0
 a0:=Tryz.isAgg0
 z0:=Tryz.sizeOf0
 v0:=Tryz.zeroValue0
 t3:=Tryz.underlying3
 a3:=Tryz.isAgg3
 z3:=Tryz.sizeOf3
 v3:=Tryz.zeroValue3
 t4:=Tryz.underlying4
 a4:=Tryz.isAgg4
 z4:=Tryz.sizeOf4
 v4:=Tryz.zeroValue4
 t5:=Tryz.underlying5
 a5:=Tryz.isAgg5
 z5:=Tryz.sizeOf5
 v5:=Tryz.zeroValue5
 t9:=Tryz.underlying9
 a9:=Tryz.isAgg9
 z9:=Tryz.sizeOf9
 v9:=Tryz.zeroValue9
 t31:=Tryz.underlying32
 a31:=Tryz.isAgg32
 z31:=Tryz.sizeOf32
 v31:=Tryz.zeroValue32
 t46:=Tryz.underlying135
 a46:=Tryz.isAgg135
 z46:=Tryz.sizeOf135
 v46:=Tryz.zeroValue135
 t51:=Tryz.underlying262
 a51:=Tryz.isAgg262
 z51:=Tryz.sizeOf262
 v51:=Tryz.zeroValue262
 t53:=Tryz.underlying297
 a53:=Tryz.isAgg297
 z53:=Tryz.sizeOf297
 v53:=Tryz.zeroValue297
 t131:=Tryz.underlying84
 a131:=Tryz.isAgg84
 z131:=Tryz.sizeOf84
 v131:=Tryz.zeroValue84
 t182:=Tryz.underlying289
 a182:=Tryz.isAgg289
 z182:=Tryz.sizeOf289
 v182:=Tryz.zeroValue289
 t183:=Tryz.underlying290
 a183:=Tryz.isAgg290
 z183:=Tryz.sizeOf290
 v183:=Tryz.zeroValue290
 t218:=Tryz.underlying334
 a218:=Tryz.isAgg334
 z218:=Tryz.sizeOf334
 v218:=Tryz.zeroValue334
 t222:=Tryz.underlying338
 a222:=Tryz.isAgg338
 z222:=Tryz.sizeOf338
 v222:=Tryz.zeroValue338
 t228:=Tryz.underlying357
 a228:=Tryz.isAgg357
 z228:=Tryz.sizeOf357
 v228:=Tryz.zeroValue357
 t229:=Tryz.underlying358
 a229:=Tryz.isAgg358
 z229:=Tryz.sizeOf358
 v229:=Tryz.zeroValue358 }
open Go.Sort Go.RowKit in
theorem Tryz.slices_Sort_string (blk off cap:Nat) (ss:List (List UInt8)) (w:World) (hH:Holds encStr w blk off ss.toArray) (hblk:blk < w.heap.size) (hsz:ss.length < 4611686018427387904) :
 Calls Tryz.prog 186 #[.slice (some ⟨blk,off,none⟩) ss.length cap] w λe w' =>
  e=.returned (.tuple #[])/\∃ n os,w'=grow (putRow encStr (Sort.ahead w n) blk off (ss.mergeSort λx y=>decide (x<=y)).toArray) os:=Any.slices_Sort_string Tryz.lays190 blk off cap ss w hH hblk hsz
def Tryz.laysGw15_ren:Go.Shelf.Ren:=⟨λ| 15=>165 | 20=>228 | n=>n,λ| 9=>9 | 23=>254 | 3=>3 | 4=>4 | 0=>0 | 21=>21 | n=>n,λ| n=>n⟩
theorem Tryz.laysGw15:Go.Proofs.LaysGw.n15 Tryz.prog Tryz.laysGw15_ren:={
 mixed:=by kernel_rfl
 f15:=Tryz.func165.trans (congrArg some (by kernel_rfl))
 f20:=Tryz.func228.trans (congrArg some (by kernel_rfl))
 t0:=Tryz.underlying0
 a0:=Tryz.isAgg0
 z0:=Tryz.sizeOf0
 v0:=Tryz.zeroValue0
 i0:=by kernel_rfl
 t3:=Tryz.underlying3
 a3:=Tryz.isAgg3
 z3:=Tryz.sizeOf3
 v3:=Tryz.zeroValue3
 i3:=by kernel_rfl
 t4:=Tryz.underlying4
 a4:=Tryz.isAgg4
 z4:=Tryz.sizeOf4
 v4:=Tryz.zeroValue4
 i4:=by kernel_rfl
 t9:=Tryz.underlying9
 a9:=Tryz.isAgg9
 z9:=Tryz.sizeOf9
 v9:=Tryz.zeroValue9
 i9:=by kernel_rfl
 t21:=Tryz.underlying21
 a21:=Tryz.isAgg21
 z21:=Tryz.sizeOf21
 v21:=Tryz.zeroValue21
 i21:=by kernel_rfl
 t23:=Tryz.underlying254
 a23:=Tryz.isAgg254
 z23:=Tryz.sizeOf254
 v23:=Tryz.zeroValue254
 i23:=by kernel_rfl }
open Go.RowKit Go.Lib in
theorem Tryz.strings_IndexFunc (g:Nat) (lb:Array Value) (eg:∀ args w,(callFunc g args).run Tryz.prog w=.ok (.enter g args) w) (p:Nat->Bool) (s:ByteArray) (w:World) (hp:PredAt Tryz.prog g lb encR p w) :
 Calls Tryz.prog 165 #[.string s,.func (.func g) #[] lb] w λe w'=>e=.returned (.int .i64 (Lib.idxFunc p true s))/\Below w.heap.size w w':=Any.strings_IndexFunc Tryz.laysGw15 g lb eg p s w hp
def Tryz.lays99_ren:Go.Shelf.Ren:=⟨λ| 99=>173 | 206=>231 | n=>n,λ| 9=>9 | 4=>4 | 3=>3 | n=>n,λ| n=>n⟩
theorem Tryz.lays99:Go.Proofs.Lays.n99 Tryz.prog Tryz.lays99_ren:={
 mixed:=by kernel_rfl
 f99:=Tryz.func173.trans (congrArg some (by kernel_rfl))
 f206:=Tryz.func231.trans (congrArg some (by kernel_rfl))
 t3:=Tryz.underlying3
 a3:=Tryz.isAgg3
 z3:=Tryz.sizeOf3
 v3:=Tryz.zeroValue3
 t4:=Tryz.underlying4
 a4:=Tryz.isAgg4
 z4:=Tryz.sizeOf4
 v4:=Tryz.zeroValue4
 t9:=Tryz.underlying9
 a9:=Tryz.isAgg9
 z9:=Tryz.sizeOf9
 v9:=Tryz.zeroValue9 }
open Go.RowKit Go.Lib in
theorem Tryz.strings_HasPrefix (s p:ByteArray) (w:World) :
 Calls Tryz.prog 173 #[.string s,.string p] w λe w'=>e=.returned (.bool (Lib.hasPrefix s.data.toList p.data.toList))/\w'=w:=Any.strings_HasPrefix Tryz.lays99 s p w
def Tryz.lays105_ren:Go.Shelf.Ren:=⟨λ| 105=>213 | 212=>251 | 99=>173 | 165=>252 | 166=>181 | 170=>253 | 169=>183 | 263=>273 | 264=>274 | 206=>231 | 240=>238 | 241=>275 | 276=>261 | 277=>284 | n=>n,λ| 9=>9 | 3=>3 | 4=>4 | 20=>20 | 0=>0 | 46=>135 | 109=>341 | 5=>5 | 72=>273 | 76=>276 | 51=>262 | 146=>360 | 53=>297 | 148=>362 | 70=>271 | 37=>241 | 75=>275 | 127=>328 | 164=>349 | 80=>279 | n=>n,λ| n=>n⟩
theorem Tryz.lays105:Go.Proofs.Lays.n105 Tryz.prog Tryz.lays105_ren:={
 mixed:=by kernel_rfl
 f99:=Tryz.func173.trans (congrArg some (by kernel_rfl))
 f105:=Tryz.func213.trans (congrArg some (by kernel_rfl))
 f165:=Tryz.func252.trans (congrArg some (by kernel_rfl))
 f166:=Tryz.func181.trans (congrArg some (by kernel_rfl))
 f169:=Tryz.func183.trans (congrArg some (by kernel_rfl))
 f170:=Tryz.func253.trans (congrArg some (by kernel_rfl))
 f206:=Tryz.func231.trans (congrArg some (by kernel_rfl))
 f212:=Tryz.func251.trans (congrArg some (by kernel_rfl))
 f240:=Tryz.func238.trans (congrArg some (by kernel_rfl))
 f241:=Tryz.func275.trans (congrArg some (by kernel_rfl))
 f263:=Tryz.func273.trans (congrArg some (by kernel_rfl))
 f264:=Tryz.func274.trans (congrArg some (by kernel_rfl))
 f276:=Tryz.func261.trans (congrArg some (by kernel_rfl))
 f277:=Tryz.func284.trans (congrArg some (by kernel_rfl))
 t0:=Tryz.underlying0
 a0:=Tryz.isAgg0
 z0:=Tryz.sizeOf0
 v0:=Tryz.zeroValue0
 t3:=Tryz.underlying3
 a3:=Tryz.isAgg3
 z3:=Tryz.sizeOf3
 v3:=Tryz.zeroValue3
 t4:=Tryz.underlying4
 a4:=Tryz.isAgg4
 z4:=Tryz.sizeOf4
 v4:=Tryz.zeroValue4
 t5:=Tryz.underlying5
 a5:=Tryz.isAgg5
 z5:=Tryz.sizeOf5
 v5:=Tryz.zeroValue5
 t9:=Tryz.underlying9
 a9:=Tryz.isAgg9
 z9:=Tryz.sizeOf9
 v9:=Tryz.zeroValue9
 t20:=Tryz.underlying20
 a20:=Tryz.isAgg20
 z20:=Tryz.sizeOf20
 v20:=Tryz.zeroValue20
 t37:=Tryz.underlying241
 a37:=Tryz.isAgg241
 z37:=Tryz.sizeOf241
 v37:=Tryz.zeroValue241
 t46:=Tryz.underlying135
 a46:=Tryz.isAgg135
 z46:=Tryz.sizeOf135
 v46:=Tryz.zeroValue135
 t51:=Tryz.underlying262
 a51:=Tryz.isAgg262
 z51:=Tryz.sizeOf262
 v51:=Tryz.zeroValue262
 t53:=Tryz.underlying297
 a53:=Tryz.isAgg297
 z53:=Tryz.sizeOf297
 v53:=Tryz.zeroValue297
 t70:=Tryz.underlying271
 a70:=Tryz.isAgg271
 z70:=Tryz.sizeOf271
 v70:=Tryz.zeroValue271
 t72:=Tryz.underlying273
 a72:=Tryz.isAgg273
 z72:=Tryz.sizeOf273
 v72:=Tryz.zeroValue273
 t75:=Tryz.underlying275
 a75:=Tryz.isAgg275
 z75:=Tryz.sizeOf275
 v75:=Tryz.zeroValue275
 t76:=Tryz.underlying276
 a76:=Tryz.isAgg276
 z76:=Tryz.sizeOf276
 v76:=Tryz.zeroValue276
 t109:=Tryz.underlying341
 a109:=Tryz.isAgg341
 z109:=Tryz.sizeOf341
 v109:=Tryz.zeroValue341
 t127:=Tryz.underlying328
 a127:=Tryz.isAgg328
 z127:=Tryz.sizeOf328
 v127:=Tryz.zeroValue328
 t146:=Tryz.underlying360
 a146:=Tryz.isAgg360
 z146:=Tryz.sizeOf360
 v146:=Tryz.zeroValue360
 t148:=Tryz.underlying362
 a148:=Tryz.isAgg362
 z148:=Tryz.sizeOf362
 v148:=Tryz.zeroValue362
 t164:=Tryz.underlying349
 a164:=Tryz.isAgg349
 z164:=Tryz.sizeOf349
 v164:=Tryz.zeroValue349 }
theorem Tryz.Builder_Extra_105:Builder.Extra Tryz.prog Tryz.lays105_ren:={
 sizeBuilder:=by kernel_rfl
 liesBuilder:=by kernel_rfl
 t5:=Tryz.underlying5
 a5:=Tryz.isAgg5
 z5:=Tryz.sizeOf5
 v5:=Tryz.zeroValue5
 infoByte:=by kernel_rfl
 cellsByte:=by kernel_rfl
 sizeByte:=by kernel_rfl
 neB5:=by decide }
open Go.RowKit Go.Lib in
theorem Tryz.strings_Repeat (s:ByteArray) (c:Nat) (w:World) (hc:c<=9223372036854775807) (hlen:s.size * c<=140737488355328) :
 Calls Tryz.prog 213 #[.string s,.int .i64 c] w λe w'=>e=.returned (.string ⟨(Lib.repeatL s.data.toList c).toArray⟩)/\Below w.heap.size w w':=Any.strings_Repeat Tryz.lays105 Tryz.Builder_Extra_105 s c w hc hlen
def Tryz.lays110_ren:Go.Shelf.Ren:=⟨λ| 110=>99 | 109=>169 | n=>n,λ| 31=>32 | 9=>9 | 4=>4 | 3=>3 | 0=>0 | n=>n,λ| n=>n⟩
def Tryz.lays193_ren:Go.Shelf.Ren:=⟨λ| 193=>217 | n=>n,λ| 31=>32 | 9=>9 | 4=>4 | 3=>3 | 0=>0 | n=>n,λ| n=>n⟩
theorem Tryz.lays193:Go.Proofs.Lays.n193 Tryz.prog Tryz.lays193_ren:={
 mixed:=by kernel_rfl
 f193:=Tryz.func217.trans (congrArg some (by kernel_rfl))
 t0:=Tryz.underlying0
 a0:=Tryz.isAgg0
 z0:=Tryz.sizeOf0
 v0:=Tryz.zeroValue0
 t3:=Tryz.underlying3
 a3:=Tryz.isAgg3
 z3:=Tryz.sizeOf3
 v3:=Tryz.zeroValue3
 t4:=Tryz.underlying4
 a4:=Tryz.isAgg4
 z4:=Tryz.sizeOf4
 v4:=Tryz.zeroValue4
 t9:=Tryz.underlying9
 a9:=Tryz.isAgg9
 z9:=Tryz.sizeOf9
 v9:=Tryz.zeroValue9
 t31:=Tryz.underlying32
 a31:=Tryz.isAgg32
 z31:=Tryz.sizeOf32
 v31:=Tryz.zeroValue32 }
open Go.RowKit Go.Lib in
theorem Tryz.slices_Equal_string (b1 o1 n c b2 o2 m d:Nat) (xs ys:List ByteArray) (w:World) (hx:n<=xs.length) (hy:m<=ys.length) (hbig:n<=9223372036854775807) (hbig2:m<=9223372036854775807) (hc1:∀ j,j < xs.length->w.cell? ⟨b1,o1+j,none⟩=some (.string (xs.getD j ByteArray.empty))) (hc2:∀ j,j < ys.length->w.cell? ⟨b2,o2+j,none⟩=some (.string (ys.getD j ByteArray.empty))) :
 Calls Tryz.prog 217 #[.slice (some ⟨b1,o1,none⟩) n c,.slice (some ⟨b2,o2,none⟩) m d] w λe w'=>e=.returned (.bool (decide (xs.take n=ys.take m)))/\∃ q,w'=w.drewN q:=Any.slices_Equal_string Tryz.lays193 b1 o1 n c b2 o2 m d xs ys w hx hy hbig hbig2 hc1 hc2
open Go.RowKit Go.Lib in
theorem Tryz.slices_Equal_string_empty (a1 a2:Option Addr) (c m d:Nat) (w:World) (hbig2:m<=9223372036854775807) :
 Calls Tryz.prog 217 #[.slice a1 0 c,.slice a2 m d] w λe w'=>e=.returned (.bool (decide (m=0)))/\w'=w:=Any.slices_Equal_string_empty Tryz.lays193 a1 a2 c m d w hbig2
def Tryz.laysNm215_ren:Go.Shelf.Ren:=⟨λ| 15=>158 | n=>n,λ| 22=>50 | 3=>3 | 4=>4 | n=>n,λ| n=>n⟩
theorem Tryz.laysNm215:Go.Proofs.Lays2.n15 Tryz.prog Tryz.laysNm215_ren:={
 mixed:=by kernel_rfl
 f15:=Tryz.func158.trans (congrArg some (by kernel_rfl))
 t3:=Tryz.underlying3
 a3:=Tryz.isAgg3
 z3:=Tryz.sizeOf3
 v3:=Tryz.zeroValue3
 t4:=Tryz.underlying4
 a4:=Tryz.isAgg4
 z4:=Tryz.sizeOf4
 v4:=Tryz.zeroValue4
 t22:=Tryz.underlying50
 a22:=Tryz.isAgg50
 z22:=Tryz.sizeOf50
 v22:=Tryz.zeroValue50
 i3:=by kernel_rfl }
open Go.RowKit Go.Lib in
theorem Tryz.slices_Clone_int (b off n c:Nat) (zs:List Int) (w:World) (hz:n<=zs.length) (hbig:n * 8<=140737488355328) (hc:∀ j,j < zs.length->w.cell? ⟨b,off+j,none⟩=some (.int .i64 (zs.getD j 0))) :
 Calls Tryz.prog 158 #[.slice (some ⟨b,off,none⟩) n c] w λe w'=>∃ v',e=.returned v'/\w'.ownsRow w.heap.size 3 1 v' n ((zs.take n).map (Value.int .i64))/\v'≠.slice none 0 0/\Below w.heap.size w w':=Any.slices_Clone_int Tryz.laysNm215 b off n c zs w hz hbig hc
open Go.RowKit Go.Lib in
theorem Tryz.slices_Clone_int_nil (n c:Nat) (w:World) :
 Calls Tryz.prog 158 #[.slice none n c] w λe w'=>e=.returned (.slice none 0 0)/\w'=w:=Any.slices_Clone_int_nil Tryz.laysNm215 n c w
def Tryz.laysNm216_ren:Go.Shelf.Ren:=⟨λ| 16=>53 | n=>n,λ| 24=>32 | 9=>9 | 4=>4 | n=>n,λ| n=>n⟩
theorem Tryz.laysNm216:Go.Proofs.Lays2.n16 Tryz.prog Tryz.laysNm216_ren:={
 mixed:=by kernel_rfl
 f16:=Tryz.func53.trans (congrArg some (by kernel_rfl))
 t4:=Tryz.underlying4
 a4:=Tryz.isAgg4
 z4:=Tryz.sizeOf4
 v4:=Tryz.zeroValue4
 t9:=Tryz.underlying9
 a9:=Tryz.isAgg9
 z9:=Tryz.sizeOf9
 v9:=Tryz.zeroValue9
 t24:=Tryz.underlying32
 a24:=Tryz.isAgg32
 z24:=Tryz.sizeOf32
 v24:=Tryz.zeroValue32
 i9:=by kernel_rfl }
open Go.RowKit Go.Lib in
theorem Tryz.slices_Clone_string (b off n c:Nat) (zs:List ByteArray) (w:World) (hz:n<=zs.length) (hbig:n * 16<=140737488355328) (hc:∀ j,j < zs.length->w.cell? ⟨b,off+j,none⟩=some (.string (zs.getD j ByteArray.empty))) :
 Calls Tryz.prog 53 #[.slice (some ⟨b,off,none⟩) n c] w λe w'=>∃ v',e=.returned v'/\w'.ownsRow w.heap.size 9 1 v' n ((zs.take n).map (Value.string))/\v'≠.slice none 0 0/\Below w.heap.size w w':=Any.slices_Clone_string Tryz.laysNm216 b off n c zs w hz hbig hc
open Go.RowKit Go.Lib in
theorem Tryz.slices_Clone_string_nil (n c:Nat) (w:World) :
 Calls Tryz.prog 53 #[.slice none n c] w λe w'=>e=.returned (.slice none 0 0)/\w'=w:=Any.slices_Clone_string_nil Tryz.laysNm216 n c w
open Go.RowKit Go.Lib in
theorem Tryz.slices_Clone_string_zero (a:Addr) (c:Nat) (w:World) :
 Calls Tryz.prog 53 #[.slice (some a) 0 c] w λe w'=>∃ v',e=.returned v'/\w'.ownsRow w.heap.size 9 1 v' 0 []/\v'≠.slice none 0 0/\Below w.heap.size w w':=Any.slices_Clone_string_zero Tryz.laysNm216 a c w
def Tryz.lays194_ren:Go.Shelf.Ren:=⟨λ| 194=>112 | n=>n,λ| 31=>32 | 9=>9 | 3=>3 | 4=>4 | 0=>0 | n=>n,λ| n=>n⟩
theorem Tryz.lays194:Go.Proofs.Lays.n194 Tryz.prog Tryz.lays194_ren:={
 mixed:=by kernel_rfl
 f194:=Tryz.func112.trans (congrArg some (by kernel_rfl))
 t0:=Tryz.underlying0
 a0:=Tryz.isAgg0
 z0:=Tryz.sizeOf0
 v0:=Tryz.zeroValue0
 t3:=Tryz.underlying3
 a3:=Tryz.isAgg3
 z3:=Tryz.sizeOf3
 v3:=Tryz.zeroValue3
 t4:=Tryz.underlying4
 a4:=Tryz.isAgg4
 z4:=Tryz.sizeOf4
 v4:=Tryz.zeroValue4
 t9:=Tryz.underlying9
 a9:=Tryz.isAgg9
 z9:=Tryz.sizeOf9
 v9:=Tryz.zeroValue9
 t31:=Tryz.underlying32
 a31:=Tryz.isAgg32
 z31:=Tryz.sizeOf32
 v31:=Tryz.zeroValue32 }
open Go.RowKit Go.Lib Go.Sort in
theorem Tryz.slices_Compact_string (blk off cap:Nat) (zs:List (List UInt8)) (w:World) (hH:Holds encStr w blk off zs.toArray) (hsz:zs.length<=9223372036854775807) (hcap:zs.length<=cap) :
 Calls Tryz.prog 112 #[.slice (some ⟨blk,off,none⟩) zs.length cap] w λe w'=>e=.returned (.slice (some ⟨blk,off,none⟩) (Lib.compact zs).length cap)/\∃ q,w'=putRow encStr (Sort.ahead w q) blk off (Lib.compact zs++List.replicate (zs.length - (Lib.compact zs).length) []).toArray:=Any.slices_Compact_string Tryz.lays194 blk off cap zs w hH hsz hcap
open Go.RowKit Go.Lib Go.Sort in
theorem Tryz.slices_Compact_string_empty (a:Option Addr) (cap:Nat) (w:World) :
 Calls Tryz.prog 112 #[.slice a 0 cap] w λe w'=>e=.returned (.slice a 0 cap)/\w'=w:=Any.slices_Compact_string_empty Tryz.lays194 a cap w
def Tryz.laysNm225_ren:Go.Shelf.Ren:=⟨λ| 25=>193 | 31=>242 | 32=>243 | 37=>130 | n=>n,λ| 22=>50 | 3=>3 | 4=>4 | 40=>135 | 0=>0 | n=>n,λ| n=>n⟩
theorem Tryz.laysNm225:Go.Proofs.Lays2.n25 Tryz.prog Tryz.laysNm225_ren:={
 mixed:=by kernel_rfl
 f25:=Tryz.func193.trans (congrArg some (by kernel_rfl))
 f31:=Tryz.func242.trans (congrArg some (by kernel_rfl))
 f32:=Tryz.func243.trans (congrArg some (by kernel_rfl))
 f37:=Tryz.func130.trans (congrArg some (by kernel_rfl))
 t0:=Tryz.underlying0
 a0:=Tryz.isAgg0
 z0:=Tryz.sizeOf0
 v0:=Tryz.zeroValue0
 t3:=Tryz.underlying3
 a3:=Tryz.isAgg3
 z3:=Tryz.sizeOf3
 v3:=Tryz.zeroValue3
 t4:=Tryz.underlying4
 a4:=Tryz.isAgg4
 z4:=Tryz.sizeOf4
 v4:=Tryz.zeroValue4
 t22:=Tryz.underlying50
 a22:=Tryz.isAgg50
 z22:=Tryz.sizeOf50
 v22:=Tryz.zeroValue50
 t40:=Tryz.underlying135
 a40:=Tryz.isAgg135
 z40:=Tryz.sizeOf135
 v40:=Tryz.zeroValue135 }
open Go.RowKit Go.Lib in
theorem Tryz.slices_BinarySearch_int (b off n c:Nat) (zs:List Int) (x:Int) (w:World) (hz:n<=zs.length) (hbig:n < 4611686018427387904) (hc:∀ j,j < zs.length->w.cell? ⟨b,off+j,none⟩=some (.int .i64 (zs.getD j 0))) (hs:(zs.take n).Pairwise (·<=·)) :
 Calls Tryz.prog 193 #[.slice (some ⟨b,off,none⟩) n c,.int .i64 x] w λe w'=>e=.returned (.tuple #[.int .i64 ((zs.take n).countP (· < x):Nat),.bool ((zs.take n).contains x)])/\∃ q,w'=w.drewN q:=Any.slices_BinarySearch_int Tryz.laysNm225 b off n c zs x w hz hbig hc hs
open Go.RowKit Go.Sort in
theorem Tryz.slices_Sort_string_none (p:Option Addr) (cap:Nat) (w:World) :
 Calls Tryz.prog 186 #[.slice p 0 cap] w λe w'=>e=.returned (.tuple #[])/\w'=w:=Any.slices_Sort_string_none Tryz.lays190 p cap w
open Go.RowKit Go.Lib in
theorem Tryz.slices_BinarySearch_int_empty (a:Option Addr) (c:Nat) (x:Int) (w:World) :
 Calls Tryz.prog 193 #[.slice a 0 c,.int .i64 x] w λe w'=>e=.returned (.tuple #[.int .i64 0,.bool false])/\w'=w:=Any.slices_BinarySearch_int_empty Tryz.laysNm225 a c x w
open Go.RowKit Go.Lib in
theorem Tryz.slices_Equal_string_lens (a1 a2:Option Addr) (n c m d:Nat) (w:World) (hnm:n≠m) :
 Calls Tryz.prog 217 #[.slice a1 n c,.slice a2 m d] w λe w'=>e=.returned (.bool false)/\w'=w:=Any.slices_Equal_string_lens Tryz.lays193 a1 a2 n c m d w hnm
def Tryz.laysSlH8_f25_ren:Go.Shelf.Ren:=⟨λ| 8=>25 | 6=>61 | n=>n,λ| 22=>50 | 23=>3 | 25=>79 | 4=>4 | 3=>3 | 0=>0 | n=>n,λ| n=>n⟩
theorem Tryz.laysSlH8_f25:Go.Proofs.SlLaysH.n8 Tryz.prog Tryz.laysSlH8_f25_ren:={
 mixed:=by kernel_rfl
 f6:=⟨Tryz.f61.name,by decide,Tryz.func61.trans (congrArg some (by kernel_rfl))⟩
 f8:=⟨Tryz.f25.name,by decide,Tryz.func25.trans (congrArg some (by kernel_rfl))⟩
 t0:=Tryz.underlying0
 a0:=Tryz.isAgg0
 z0:=Tryz.sizeOf0
 v0:=Tryz.zeroValue0
 t3:=Tryz.underlying3
 a3:=Tryz.isAgg3
 z3:=Tryz.sizeOf3
 v3:=Tryz.zeroValue3
 t4:=Tryz.underlying4
 a4:=Tryz.isAgg4
 z4:=Tryz.sizeOf4
 v4:=Tryz.zeroValue4
 t22:=Tryz.underlying50
 a22:=Tryz.isAgg50
 z22:=Tryz.sizeOf50
 v22:=Tryz.zeroValue50
 a23:=Tryz.isAgg3
 z23:=Tryz.sizeOf3
 t25:=Tryz.underlying79
 a25:=Tryz.isAgg79
 z25:=Tryz.sizeOf79
 v25:=Tryz.zeroValue79 }
open Go.RowKit Go.Lib in
theorem Tryz.slices_ContainsFunc {α:Type} [Inhabited α] (enc:α->Value) (p:α->Bool) (g:Nat) (lb:Array Value) (eg:∀ args w,(callFunc g args).run Tryz.prog w=.ok (.enter g args) w) (b off n c:Nat) (zs:List α) (w:World) (hp:PredAt Tryz.prog g lb enc p w) (hz:n<=zs.length) (hbig:n<=9223372036854775807) (hc:∀ j,j < zs.length->w.cell? ⟨b,off+j,none⟩=some (enc zs[j]!)) :
 Calls Tryz.prog 25 #[.slice (some ⟨b,off,none⟩) n c,.func (.func g) #[] lb] w λe w'=>e=.returned (.bool ((zs.take n).any p))/\∃ q,w'=w.drewN q:=AnyE.slices_ContainsFunc Tryz.laysSlH8_f25 enc p g lb eg b off n c zs w hp hz hbig hc
def Tryz.laysSlH10_f171_ren:Go.Shelf.Ren:=⟨λ| 10=>171 | 6=>230 | n=>n,λ| 22=>32 | 23=>9 | 25=>121 | 3=>3 | 4=>4 | 0=>0 | n=>n,λ| n=>n⟩
theorem Tryz.laysSlH10_f171:Go.Proofs.SlLaysH.n10 Tryz.prog Tryz.laysSlH10_f171_ren:={
 mixed:=by kernel_rfl
 f6:=⟨Tryz.f230.name,by decide,Tryz.func230.trans (congrArg some (by kernel_rfl))⟩
 f10:=⟨Tryz.f171.name,by decide,Tryz.func171.trans (congrArg some (by kernel_rfl))⟩
 t0:=Tryz.underlying0
 a0:=Tryz.isAgg0
 z0:=Tryz.sizeOf0
 v0:=Tryz.zeroValue0
 t3:=Tryz.underlying3
 a3:=Tryz.isAgg3
 z3:=Tryz.sizeOf3
 v3:=Tryz.zeroValue3
 t4:=Tryz.underlying4
 a4:=Tryz.isAgg4
 z4:=Tryz.sizeOf4
 v4:=Tryz.zeroValue4
 t22:=Tryz.underlying32
 a22:=Tryz.isAgg32
 z22:=Tryz.sizeOf32
 v22:=Tryz.zeroValue32
 a23:=Tryz.isAgg9
 z23:=Tryz.sizeOf9
 t25:=Tryz.underlying121
 a25:=Tryz.isAgg121
 z25:=Tryz.sizeOf121
 v25:=Tryz.zeroValue121 }
open Go.RowKit Go.Lib Go.Sort in
theorem Tryz.slices_DeleteFunc {α:Type} [Inhabited α] (enc:α->Value) (hO:OneCell enc) (p:α->Bool) (g:Nat) (lb:Array Value) (eg:∀ args w,(callFunc g args).run Tryz.prog w=.ok (.enter g args) w) (zr:α) (v23:∀ w,(zeroValue 9).run Tryz.prog w=.ok (enc zr) w) (blk off cap:Nat) (d:Array α) (w:World) (hp:PredAt Tryz.prog g lb enc p w) (hpo:PredOver Tryz.prog g lb enc p blk off d.size w) (hH:Holds enc w blk off d) (hsz:d.size<=9223372036854775807) (hcap:d.size<=cap) :
 Calls Tryz.prog 171 #[.slice (some ⟨blk,off,none⟩) d.size cap,.func (.func g) #[] lb] w λe w'=>e=.returned (.slice (some ⟨blk,off,none⟩) (d.toList.filter λx=>!p x).length cap)/\∃ q,w'=putRow enc (Sort.ahead w q) blk off ((d.toList.filter λx=>!p x)++List.replicate (d.size - (d.toList.filter λx=>!p x).length) zr).toArray:=AnyE.slices_DeleteFunc Tryz.laysSlH10_f171 enc hO p g lb eg zr v23 blk off cap d w hp hpo hH hsz hcap
def Tryz.sortedZ_ren:Go.Shelf.Ren:=⟨λ| 6=>110 | 8=>185 | 9=>186 | 11=>239 | 13=>132 | 12=>240 | 23=>207 | 24=>208 | 14=>262 | 15=>263 | 16=>264 | 17=>265 | 18=>266 | 19=>267 | 20=>268 | 21=>269 | 22=>270 | 25=>281 | 26=>247 | 27=>248 | 28=>282 | 29=>283 | 30=>129 | 31=>302 | n=>n,λ| 26=>9 | 28=>201 | 24=>32 | 0=>0 | 3=>3 | 37=>135 | 48=>262 | 50=>297 | 4=>4 | 40=>290 | 39=>289 | 45=>84 | 5=>5 | 9=>9 | 51=>334 | 55=>338 | 57=>357 | 58=>358 | 33=>121 | n=>n,λ| n=>n⟩
theorem Tryz.sortedZ:Go.Proofs.SlLaysZ.n6 Tryz.prog Tryz.sortedZ_ren:={
 mixed:=by kernel_rfl
 f6:=⟨Tryz.f110.name,by decide,Tryz.func110.trans (congrArg some (by kernel_rfl))⟩
 f8:=⟨Tryz.f185.name,by decide,Tryz.func185.trans (congrArg some (by kernel_rfl))⟩
 f11:=⟨Tryz.f239.name,by decide,Tryz.func239.trans (congrArg some (by kernel_rfl))⟩
 t0:=Tryz.underlying0
 a0:=Tryz.isAgg0
 z0:=Tryz.sizeOf0
 v0:=Tryz.zeroValue0
 t24:=Tryz.underlying32
 a24:=Tryz.isAgg32
 z24:=Tryz.sizeOf32
 v24:=Tryz.zeroValue32
 t26:=Tryz.underlying9
 a26:=Tryz.isAgg9
 z26:=Tryz.sizeOf9
 v26:=Tryz.zeroValue9
 t28:=Tryz.underlying201
 a28:=Tryz.isAgg201
 z28:=Tryz.sizeOf201
 v28:=Tryz.zeroValue201
 i26:=by kernel_rfl }
def Tryz.delZ_ren:Go.Shelf.Ren:=⟨λ| 10=>171 | 6=>230 | n=>n,λ| 22=>32 | 23=>9 | 25=>121 | 3=>3 | 4=>4 | 0=>0 | n=>n,λ| n=>n⟩
theorem Tryz.delZ:Go.Proofs.SlLaysH.n10 Tryz.prog Tryz.delZ_ren:={
 mixed:=by kernel_rfl
 f6:=⟨Tryz.f230.name,by decide,Tryz.func230.trans (congrArg some (by kernel_rfl))⟩
 f10:=⟨Tryz.f171.name,by decide,Tryz.func171.trans (congrArg some (by kernel_rfl))⟩
 t0:=Tryz.underlying0
 a0:=Tryz.isAgg0
 z0:=Tryz.sizeOf0
 v0:=Tryz.zeroValue0
 t3:=Tryz.underlying3
 a3:=Tryz.isAgg3
 z3:=Tryz.sizeOf3
 v3:=Tryz.zeroValue3
 t4:=Tryz.underlying4
 a4:=Tryz.isAgg4
 z4:=Tryz.sizeOf4
 v4:=Tryz.zeroValue4
 t22:=Tryz.underlying32
 a22:=Tryz.isAgg32
 z22:=Tryz.sizeOf32
 v22:=Tryz.zeroValue32
 a23:=Tryz.isAgg9
 z23:=Tryz.sizeOf9
 t25:=Tryz.underlying121
 a25:=Tryz.isAgg121
 z25:=Tryz.sizeOf121
 v25:=Tryz.zeroValue121 }
def Tryz.keysZ_ren:Go.Shelf.Ren:=⟨λ| 7=>170 | 10=>229 | n=>n,λ| 23=>64 | 26=>9 | 3=>258 | 28=>201 | 0=>0 | 27=>200 | 33=>121 | 4=>4 | n=>n,λ| n=>n⟩
theorem Tryz.keysZ:Go.Proofs.SlLaysZ.n7 Tryz.prog Tryz.keysZ_ren:={
 mixed:=by kernel_rfl
 f7:=⟨Tryz.f170.name,by decide,Tryz.func170.trans (congrArg some (by kernel_rfl))⟩
 f10:=⟨Tryz.f229.name,by decide,Tryz.func229.trans (congrArg some (by kernel_rfl))⟩
 t0:=Tryz.underlying0
 a0:=Tryz.isAgg0
 z0:=Tryz.sizeOf0
 v0:=Tryz.zeroValue0
 t4:=Tryz.underlying4
 a4:=Tryz.isAgg4
 z4:=Tryz.sizeOf4
 v4:=Tryz.zeroValue4
 t23:=Tryz.underlying64
 a23:=Tryz.isAgg64
 z23:=Tryz.sizeOf64
 v23:=Tryz.zeroValue64
 t26:=Tryz.underlying9
 a26:=Tryz.isAgg9
 z26:=Tryz.sizeOf9
 v26:=Tryz.zeroValue9
 t27:=Tryz.underlying200
 a27:=Tryz.isAgg200
 z27:=Tryz.sizeOf200
 v27:=Tryz.zeroValue200
 t28:=Tryz.underlying201
 a28:=Tryz.isAgg201
 z28:=Tryz.sizeOf201
 v28:=Tryz.zeroValue201
 t33:=Tryz.underlying121
 a33:=Tryz.isAgg121
 z33:=Tryz.sizeOf121
 v33:=Tryz.zeroValue121 }
def Tryz.keysZ1_ren:Go.Shelf.Ren:=⟨λ| 10=>229 | n=>n,λ| 33=>121 | 23=>64 | 0=>0 | 4=>4 | 26=>9 | 3=>258 | n=>n,λ| n=>n⟩
theorem Tryz.keysZ1:Go.Proofs.SlLaysZ.n10 Tryz.prog Tryz.keysZ1_ren:={
 mixed:=by kernel_rfl
 f10:=⟨Tryz.f229.name,by decide,Tryz.func229.trans (congrArg some (by kernel_rfl))⟩
 t0:=Tryz.underlying0
 a0:=Tryz.isAgg0
 z0:=Tryz.sizeOf0
 v0:=Tryz.zeroValue0
 t4:=Tryz.underlying4
 a4:=Tryz.isAgg4
 z4:=Tryz.sizeOf4
 v4:=Tryz.zeroValue4
 t23:=Tryz.underlying64
 a23:=Tryz.isAgg64
 z23:=Tryz.sizeOf64
 v23:=Tryz.zeroValue64
 t26:=Tryz.underlying9
 a26:=Tryz.isAgg9
 z26:=Tryz.sizeOf9
 v26:=Tryz.zeroValue9
 t33:=Tryz.underlying121
 a33:=Tryz.isAgg121
 z33:=Tryz.sizeOf121
 v33:=Tryz.zeroValue121 }
end Go.Proofs
namespace Go.Proofs.YtckjigopecocaaaGreatDoor
namespace SegW
open Go.RowKit OctMath
def Tab (w:World):Prop:=Lib.TabIs Tryz.prog w "internal/strconv.uint64pow10" .u64 Lib.pow10Tab
theorem Tab.below {W w:World} (h:Tab W) (hb:Below W.heap.size W w):Tab w:=Lib.tabBelow_of_tabIs h w hb
theorem adx (c:UInt8):∀ n,Lib.repeatL [c] n=List.replicate n c
 | 0=>rfl
 | n+1=>by show c :: Lib.repeatL [c] n=_; rw [adx c n]; rfl
theorem agp (n:Nat) (w:World) (ht:Tab w) (hn:n<=9223372036854775807) :
 Calls Tryz.prog 225 #[.int .i64 (n:Int)] w λe w'=>e=.returned (.string (S (Lib.decDigits n)))/\Below w.heap.size w w':=by
 refine (Tryz.strconv_Itoa (n:Int) (by omega) (by omega) w ht).mono ?_;rintro e w' ⟨rfl,k,os,rfl⟩;rw [Lib.itoa_nonneg];exact ⟨rfl,⟨rfl,rfl,rfl,by simp [Go.Sort.grow,World.drewN],λj A=>Go.Sort.heap_grow_old _ os A⟩⟩
theorem aim (c:UInt8) (n:Nat) (w:World) (hn:n<=1073741824) :
 Calls Tryz.prog 213 #[.string (S [c]),.int .i64 (n:Int)] w λe w'=>e=.returned (.string (S (List.replicate n c)))/\Below w.heap.size w w':=by
 refine (Tryz.strings_Repeat (S [c]) n w (by omega) (by rw [au]; simp; omega)).mono ?_;rintro e w' ⟨rfl,hb⟩;rw [kg,adx];exact ⟨rfl,hb⟩
def zl (hd:List UInt8) (n:Int):List UInt8:=if 0<=n/\n<=99999999 then ah hd n.toNat else []
theorem agq (hd:List UInt8) (n:Int) (w:World) (ht:Tab w) (hn : -9223372036854775808<=n/\n<=9223372036854775807) (hh:hd.length<=1073741824) :
 Calls Tryz.prog 211 #[.string (S hd),.int .i64 n] w λe w'=>e=.returned (.tuple #[.string (S (zl hd n)),.bool (decide (0<=n/\n<=99999999))])/\Below w.heap.size w w':=by
 have I:=au
 by_cases h:0<=n/\n<=99999999
 ·
  obtain ⟨u,rfl⟩:∃ u:Nat,n=(u:Int):=⟨n.toNat,by omega⟩;have hu:u<=99999999:=by omega
  have A:Zq (zl hd (u:Int)=hd++adv u):=by unfold zl; rw [if_pos h]; rfl
  rw [decide_eq_true h];have J:=afy u hu;have c1:=zq (agp u w ht (by omega));have N:=zq ht;have M:Zq (adv u=List.replicate (8 - (Lib.decDigits u).length) 48++Lib.decDigits u):=rfl;clear ht;generalize Lib.decDigits u=ds at *
  generalize zl hd (u:Int)=r at *
  go_enter Tryz.func211,Tryz.ntmps211;go_wp2_with fail;refine c1.o.mono ?_;rintro e w2 ⟨rfl,hb⟩;have F:=zq hb;have c2:=zq (aim 48 (8 - ds.length) w2 (by omega));rw [show ((8 - ds.length:Nat):Int)=8 - (ds.length:Int) by omega] at c2;clear hb c1;go_wp2_with fail;refine c2.o.mono ?_;rintro e w3 ⟨rfl,hb⟩;have B:=zq hb;clear hb c2;go_wp2_with fail;go_ret2;rw [A.o,M.o,gu,gu,List.append_assoc];exact ⟨rfl,F.o.trans (B.o.mono F.o.size)⟩
 ·
  have A:Zq (zl hd n=[]):=by unfold zl; rw [if_neg h]; rfl
  rw [decide_eq_false h];have E:n < 0\/99999999 < n:=by omega
  clear ht;generalize zl hd n=r at *
  rcases E with h1 | h1
  iterate 2
   . go_enter Tryz.func211,Tryz.ntmps211
     go_wp2_with fail;go_ret2;rw [A.o];exact ⟨rfl,Below.refl _ _⟩
theorem anj (l:List UInt8) (w:World) (hl:l.length<=1073741824) :
 Calls Tryz.prog 276 #[.string (S l),.string (S adt)] w λe w'=>e=.returned (.string (S (Lib.trimS l adt)))/\Below w.heap.size w w':=by
 have h:=Any.strings_Trim_laid Tryz.lays160 (by kernel_rfl) (S l) (S adt) w (by rw [au]; omega) (by rw [au]; decide) (ascii_of_all (by rw [kg]; decide));rw [kg,kg] at h;exact h
theorem aeu (l p:List UInt8) (w:World) :
 Calls Tryz.prog 108 #[.string (S l),.string (S p)] w λe w'=>e=.returned (.tuple #[.string (S (Lib.trimPrefix l p)),.bool (Lib.hasPrefix l p)])/\w'=w:=by
 have h:=Tryz.strings_CutPrefix (S l) (S p) w;rw [kg,kg] at h;exact h
theorem ank (l:List UInt8) (h0:l≠[]) (h8:l.length<=8) (h:∀ c∈l,dig c=true) (w:World) :
 Calls Tryz.prog 277 #[.string (S l)] w λe w'=>e=.returned (.tuple #[.int .i64 (aaa l:Int),.nilIface])/\Below w.heap.size w w':=by
 refine (Tryz.strconv_Atoi_ok (S l) (by rw [au]; omega) (aaa l) (by rw [kg]; exact ani l h0 h8 h) w).mono ?_;rintro e w' ⟨rfl,A⟩;refine ⟨rfl,?_⟩
 rcases A with rfl | ⟨t,rfl⟩
 . exact Below.refl _ _
 . exact Lib.bytesWorld_below _ _ _
def atr:Option Nat->Int
 | some n=>(n:Int)
 | none=>0
theorem ak8 (hd nm:List UInt8) (w:World) (hn:nm.length<=1073741824) :
 Calls Tryz.prog 254 #[.string (S hd),.string (S nm)] w λe w'=>e=.returned (.tuple #[.int .i64 (atr (placeL hd nm)),.bool (placeL hd nm).isSome])/\Below w.heap.size w w':=by
 have U:=au;have c1:=zq (aeu nm hd w);obtain ⟨r,E⟩:∃ r,Zq (r=placeL hd nm):=⟨_,rfl⟩;rw [<- E.o]
 by_cases h1:Lib.hasPrefix nm hd=true
 ·
  have R:Lib.trimPrefix nm hd=nm.drop hd.length:=by unfold Lib.trimPrefix; rw [if_pos h1]
  rw [h1,R] at c1
  have B:Zq (placeL hd nm=if (nm.drop hd.length).length=8/\∀ c∈nm.drop hd.length,dig c=true then some (aaa (nm.drop hd.length)) else none):=by
   show _=_;unfold placeL;simp only [h1,true_and]
  have X:(nm.drop hd.length).length<=1073741824:=by rw [List.length_drop]; omega
  rw [<- E.o] at B;clear h1 R E hn;generalize nm.drop hd.length=d at *
  by_cases h8:d.length=8
  ·
   have c2:=zq (anj d w X)
   by_cases hdg:∀ c∈d,dig c=true
   ·
    rw [(afa d).2 hdg] at c2;have A:r=some (aaa d):=by rw [B.o,if_pos ⟨h8,hdg⟩]
    subst A;have F:d≠[]:=by intro e; rw [e] at h8; cases h8
    have I:Zq (∀ W:World,Calls Tryz.prog 277 #[.string (S d)] W λe w'=>e=.returned (.tuple #[.int .i64 (aaa d:Int),.nilIface])/\Below W.heap.size W w'):=λW=>ank d F (by omega) hdg W
    clear hdg B F;have N:(S []).toList.isEmpty=true:=by rw [ByteArray.toList_eq,kg]; rfl
    show Calls _ _ _ _ λe w'=>e=.returned (.tuple #[.int .i64 (aaa d:Int),.bool true])/\_
    generalize aaa d=n at *
    go_enter Tryz.func254,Tryz.ntmps254;go_wp2_with fail;refine c1.o.mono ?_;rintro e w' ⟨rfl,rfl⟩;go_wp2_with fail;refine c2.o.mono ?_;rintro e w3 ⟨rfl,hb⟩;have M:=zq hb;clear hb c2 c1;go_wp2_with fail;refine (I.o w3).mono ?_;rintro e w4 ⟨rfl,hb⟩;have O:=zq hb;clear hb I;go_wp2_with fail;go_ret2;exact ⟨rfl,M.o.trans (O.o.mono M.o.size)⟩
   ·
    have A:r=none:=by rw [B.o,if_neg (λh=>hdg h.2)]
    subst A;have J:(Lib.trimS d adt).length≠0:=by intro e; exact hdg ((afa d).1 (List.length_eq_zero_iff.1 e))
    have N:(S (Lib.trimS d adt)).toList.isEmpty=false:=by
     rw [ByteArray.toList_eq,kg]
     cases hh:Lib.trimS d adt with
     | nil=>rw [hh] at J; exact absurd rfl J
     | cons _ _=>rfl
    clear hdg B;show Calls _ _ _ _ λe w'=>e=.returned (.tuple #[.int .i64 0,.bool false])/\_
    generalize Lib.trimS d adt=y at *
    go_enter Tryz.func254,Tryz.ntmps254;go_wp2_with fail;refine c1.o.mono ?_;rintro e w' ⟨rfl,rfl⟩;go_wp2_with fail;refine c2.o.mono ?_;rintro e w3 ⟨rfl,hb⟩;have M:=zq hb;clear hb c2 c1;go_wp2_with fail;go_ret2;exact ⟨rfl,M.o⟩
  ·
   have A:r=none:=by rw [B.o,if_neg (λh=>h8 h.1)]
   subst A;clear B;show Calls _ _ _ _ λe w'=>e=.returned (.tuple #[.int .i64 0,.bool false])/\_
   have Y:¬ (d.length:Int)=8:=by omega
   go_enter Tryz.func254,Tryz.ntmps254;go_wp2_with fail;refine c1.o.mono ?_;rintro e w' ⟨rfl,rfl⟩;go_wp2_with fail;go_ret2;exact ⟨rfl,Below.refl _ _⟩
 ·
  rw [Bool.not_eq_true] at h1;have A:r=none:=by rw [E.o]; unfold placeL; rw [if_neg (λh=>by rw [h1] at h; cases h.1)]
  subst A;rw [h1] at c1;clear h1 E;show Calls _ _ _ _ λe w'=>e=.returned (.tuple #[.int .i64 0,.bool false])/\_
  generalize Lib.trimPrefix nm hd=y at *
  go_enter Tryz.func254,Tryz.ntmps254;go_wp2_with fail;refine c1.o.mono ?_;rintro e w' ⟨rfl,rfl⟩;go_wp2_with fail;go_ret2;exact ⟨rfl,Below.refl _ _⟩
end SegW
section
open Go.RowKit
def Row1 (w:World) (a:Option Addr) (vs:List Value):Prop:=∀ i (h:i < vs.length),∃ b off,a=some ⟨b,off,none⟩/\w.cell? ⟨b,off+i,none⟩=some vs[i]
theorem Row1.below {W w:World} {a:Option Addr} {vs:List Value} (h:Row1 W a vs) (hb:Below W.heap.size W w):Row1 w a vs:=by
 intro i A;obtain ⟨b,off,rfl,hc⟩:=h i A;exact ⟨b,off,rfl,by rw [hb.cell (ay hc)]; exact hc⟩
theorem Row1.mod {M:Nat->Prop} {W w:World} {a:Option Addr} {vs:List Value} (h:Row1 W a vs) (hb:Mod M W w) (hM:∀ ad,a=some ad->¬ M ad.block):Row1 w a vs:=by
 intro i A;obtain ⟨b,off,rfl,hc⟩:=h i A;exact ⟨b,off,rfl,by rw [hb.cell (p:=⟨b,off+i,none⟩) (ay hc) (show ¬ M b from hM ⟨b,off,none⟩ rfl)]; exact hc⟩
theorem Row1.of_strs {w:World} {a:Option Addr} {ss:List ByteArray} (h:Strs w a ss):Row1 w a (ss.map .string):=by
 intro i A;obtain ⟨b,off,rfl,hc⟩:=h i (by simpa using A);exact ⟨b,off,rfl,by rw [hc,List.getElem_map]⟩
theorem Row1.to_strs {w:World} {a:Option Addr} {ss:List ByteArray} (h:Row1 w a (ss.map .string)):Strs w a ss:=by
 intro i A;obtain ⟨b,off,rfl,hc⟩:=h i (by simpa using A);exact ⟨b,off,rfl,by rw [hc,List.getElem_map]⟩
theorem Row1.of_own {w:World} {base n:Nat} {e:TypeId} {v:Value} {xs:List Value} (h:w.ownsRow base e 1 v n xs):∃ a cap,v=.slice a n cap/\Row1 w a xs/\xs.length=n:=by
 obtain ⟨B,h⟩:=h
 rcases h with ⟨rfl,h0⟩ | ⟨g,cap,cur,rfl,hb,hg,hc1,hc2,hcs,hcur⟩
 . exact ⟨none,0,by rw [h0],λi A=>by omega,by omega⟩
 ·
  refine ⟨some ⟨g,0,none⟩,cap,rfl,λi A=>⟨g,0,rfl,?_⟩,by omega⟩;unfold World.cell?;rw [hg]
  have:cur[0+i]?=(cur.toList.take (n * 1))[i]?:=by
   rw [List.getElem?_take,if_pos (by omega)]; simp
  simp only [this,hcur];simp [A]
section
variable {P:Program} {w:World}
end
theorem az {w:World} {base n:Nat} {e:TypeId} {sz:Nat} {v:Value} {xs:List Value} (h:w.ownsRow base e sz v n xs):∀ g,v.ownBlock=some g->base<=g:=by
 intro g A
 rcases h.2 with ⟨rfl,_⟩ | ⟨g',cap,cur,rfl,hb,_⟩
 . cases A
 . cases A; exact hb
end
namespace DskW
open Go.RowKit Go.MapKept OctMath
structure FileD where
 blk:Nat
 img:List UInt8
 now:List UInt8
structure WriteD where
 blk:Nat
 pos:Nat
 txt:List UInt8
def WriteD.cells (x:WriteD):List Value:=[.pointer (some ⟨x.blk,0,none⟩),.int .i64 (x.pos:Int),.string (S x.txt)]
def dw (l:List WriteD):List Value:=l.flatMap WriteD.cells
theorem jw (l:List WriteD):(dw l).length=l.length * 3:=by
 induction l with
 | nil=>rfl
 | cons x l ih =>
   show (x.cells++dw l).length=_;rw [List.length_append,ih,List.length_cons]; show 3+_=_; omega
structure DiskD where
 blk:Nat
 left:Int
 down:Bool
 mB:Nat
 files:List (List UInt8×FileD)
 wv:Value
 waits:List WriteD
 cap:Int
def DiskD.foot (D:DiskD) (k:Nat):Prop:=k=D.blk\/k=D.mB\/(∃ p∈D.files,k=p.2.blk)\/D.wv.ownBlock=some k
def DiskD.head (D:DiskD):Array Value:=#[.int .i64 D.left,.bool D.down,.map (some D.mB),D.wv,.int .i64 D.cap]
def FileD.cells (f:FileD):Array Value:=#[.string (S f.img),.string (S f.now)]
def gp (l:List (List UInt8×FileD)):Nat:=(l.map λp=>p.2.now.length).sum
def DiskD.size (D:DiskD):Nat:=gp D.files
structure DiskAt (base:Nat) (w:World) (D:DiskD):Prop where
 head:w.heap[D.blk]?=some (.cells D.head 67 (0,0))
 map:∃ es c,w.heap[D.mB]?=some (.map es c)/\Stamped es c/\es.toList.map (λe=>(e.key,e.val))=D.files.map (λp=>(.string (S p.1),.pointer (some ⟨p.2.blk,0,none⟩)))
 file:∀ p∈D.files,w.heap[p.2.blk]?=some (.cells p.2.cells 312 (0,0))
 row:w.ownsRow base 315 3 D.wv D.waits.length (dw D.waits)
 names:(D.files.map (·.1)).Nodup
 blocks:(D.files.map (·.2.blk)).Nodup
 apart:D.blk≠D.mB/\(∀ p∈D.files,p.2.blk≠D.blk/\p.2.blk≠D.mB)/\∀ k,D.wv.ownBlock=some k->k≠D.blk/\k≠D.mB/\∀ p∈D.files,k≠p.2.blk
 above:base<=D.blk/\base<=D.mB/\∀ p∈D.files,base<=p.2.blk
 ints : -1<=D.left/\D.left<=9223372036854775807/\0<=D.cap/\D.cap<=16777216
 fits:(D.size:Int)<=D.cap
 waitf:∀ x∈D.waits,∃ p∈D.files,p.2.blk=x.blk
theorem DiskAt.lt {base:Nat} {w:World} {D:DiskD} (h:DiskAt base w D) {k:Nat} (hk:D.foot k):k < w.heap.size:=by
 rcases hk with rfl | rfl | ⟨p,hp,rfl⟩ | hk
 . exact (Array.getElem?_eq_some_iff.1 h.head).1
 . obtain ⟨es,c,h1,_⟩:=h.map; exact (Array.getElem?_eq_some_iff.1 h1).1
 . exact (Array.getElem?_eq_some_iff.1 (h.file p hp)).1
 . rcases h.row.2 with ⟨e,_⟩ | ⟨g,cap,cur,e,_,hg,_⟩
   . rw [e] at hk; cases hk
   . rw [e] at hk; cases hk; exact (Array.getElem?_eq_some_iff.1 hg).1
theorem DiskAt.base_le {base:Nat} {w:World} {D:DiskD} (h:DiskAt base w D) {k:Nat} (hk:D.foot k):base<=k:=by
 rcases hk with rfl | rfl | ⟨p,hp,rfl⟩ | hk
 . exact h.above.1
 . exact h.above.2.1
 . exact h.above.2.2 p hp
 . exact az h.row k hk
theorem DiskAt.mod {base:Nat} {w w':World} {D:DiskD} {M:Nat->Prop} (h:DiskAt base w D) (hm:Mod M w w') (hM:∀ k,D.foot k->¬ M k):DiskAt base w' D:=by
 have key:∀ k,D.foot k->w'.heap[k]?=w.heap[k]?:=λk hk=>hm.block k (h.lt hk) (hM k hk)
 obtain ⟨es,c,m1,m2,m3⟩:=h.map;refine ⟨(key _ (.inl rfl)).trans h.head,⟨es,c,(key _ (.inr (.inl rfl))).trans m1,m2,m3⟩,λp hp=>(key _ (.inr (.inr (.inl ⟨p,hp,rfl⟩)))).trans (h.file p hp),?_,h.names,h.blocks,h.apart,h.above,h.ints,h.fits,h.waitf⟩;refine ⟨h.row.1,?_⟩
 rcases h.row.2 with h0 | ⟨g,cap,cur,e,hb,hg,r⟩
 . exact .inl h0
 . exact .inr ⟨g,cap,cur,e,hb,(key g (.inr (.inr (.inr (by rw [e]; rfl))))).trans hg,r⟩
theorem DiskAt.below {base:Nat} {w w':World} {D:DiskD} (h:DiskAt base w D) (hb:Below w.heap.size w w'):DiskAt base w' D :=
 h.mod (M:=λ_=>False) (Mod.of_below hb) (λ_ _ h=>h)
/-! what the calls make of it -/
def DiskD.find (D:DiskD) (n:List UInt8):Option FileD:=(D.files.find? λp=>p.1 == n).map (·.2)
def DiskD.burn (D:DiskD):DiskD:=if D.left=0 then { D with left := -1,down:=true } else if 0 < D.left then { D with left:=D.left - 1 } else D
def DiskD.bars (D:DiskD) (ns:List (List UInt8)):Int:=if D.down then 8 else if ns.all λn=>(D.find n).isSome then 0 else 9
theorem S_inj {a b:List UInt8} (h:S a=S b):a=b:=by
 have:=congrArg (λx:ByteArray=>x.data.toList) h
 simpa [S] using this
def uk (f:Option FileD):Value:=.pointer (f.map λf=>⟨f.blk,0,none⟩)
theorem anl {P:Program} {t:TypeId} {i:TypeInfo} {z:Value} {w:World} (hi:P.info? t=some i) (hz:i.zero=some z):(zeroValue t).run P w=.ok z w:=by
 simp [zeroValue,typeInfo,hi,hz]
theorem kr {base:Nat} {w:World} {D:DiskD} (h:DiskAt base w D) (n:List UInt8) :
 (Instr.lookup 64 (.map (some D.mB)) (.string (S n)) false).run Tryz.prog w=.ok (uk (D.find n)) w:=by
 obtain ⟨es,c,hb,an,E⟩:=h.map;have hm:=Tryz.underlying64;have hd:=Tryz.underlying9
 have R:∀ x∈es.toList,IsKey .string x.key:=λx hx=>by
  have:(x.key,x.val)∈D.files.map (λp=>(Value.string (S p.1),Value.pointer (some ⟨p.2.blk,0,none⟩))):=by rw [<- E]; exact List.mem_map.2 ⟨x,hx,rfl⟩
  obtain ⟨p,_,hp⟩:=List.mem_map.1 this;have:x.key=.string (S p.1):=(Prod.mk.inj hp).1.symm;rw [this]; trivial
 have hk:IsKey .string (.string (S n)):=trivial
 obtain ⟨i0,U,X⟩:∃ i,Tryz.prog.info? 258=some i/\i.zero=some (.pointer none):=by
  have:=(show (Tryz.prog.info? 258).map (λi=>i.zero)=some (some (.pointer none)) by kernel_rfl)
  cases hh:Tryz.prog.info? 258 with
  | none=>rw [hh] at this; cases this
  | some i=>rw [hh] at this; exact ⟨i,rfl,Option.some.inj this⟩
 have Y:=anl (w:=w) U X
 have F:∀ (l:List (List UInt8×FileD)) (el:List MapEntry),el.map (λe:MapEntry=>(e.key,e.val))=l.map (λp=>(Value.string (S p.1),Value.pointer (some ⟨p.2.blk,0,none⟩))) ->
  ((∀ x∈el,x.key≠.string (S n))->l.find? (λp=>p.1 == n)=none) /\
  ∀ (j:Nat) (e:MapEntry),el[j]?=some e->e.key=.string (S n)->(l.map (·.1)).Nodup->∃ p,l.find? (λp=>p.1 == n)=some p/\e.val=.pointer (some ⟨p.2.blk,0,none⟩):=by
  intro l
  induction l with
  | nil=>intro el A; cases el with
    | nil=>exact ⟨λ_=>rfl,λj e I=>by cases I⟩
    | cons x el=>cases A
  | cons p l ih =>
    intro el A
    cases el with
    | nil=>cases A
    | cons x el =>
      simp only [List.map_cons,List.cons.injEq,Prod.mk.injEq] at A;obtain ⟨⟨N,Z⟩,A⟩:=A;obtain ⟨ab,ac⟩:=ih el A
      constructor
      . intro hn
        have h1:(p.1 == n)=false:=by
         rw [beq_eq_false_iff_ne]; intro e; exact hn x (.head _) (by rw [N,e])
        rw [List.find?_cons,h1];exact ab λy hy=>hn y (.tail _ hy)
      ·
       intro j e I B J;simp only [List.map_cons,List.nodup_cons] at J
       cases j with
       | zero =>
         simp only [List.getElem?_cons_zero,Option.some.injEq] at I;subst I;have:p.1=n:=S_inj (by rw [N] at B; cases B; rfl);refine ⟨p,by rw [List.find?_cons,show (p.1 == n)=true from by simp [this]],Z⟩
       | succ j =>
         simp only [List.getElem?_cons_succ] at I
         have O:n∈l.map (·.1):=by
          have:(e.key,e.val)∈l.map (λp=>(Value.string (S p.1),Value.pointer (some ⟨p.2.blk,0,none⟩))):=by rw [<- A]; exact List.mem_map.2 ⟨e,List.mem_of_getElem? I,rfl⟩
          obtain ⟨q,hq,ad⟩:=List.mem_map.1 this;have M:=(Prod.mk.inj ad).1;rw [B] at M;have:q.1=n:=S_inj (by cases M; rfl);exact List.mem_map.2 ⟨q,hq,this⟩
         have h1:(p.1 == n)=false:=by
          rw [beq_eq_false_iff_ne]; intro e'; exact J.1 (e' ▸ O)
         rw [List.find?_cons,h1];exact ac j e I B J.2
 have hF:=F D.files es.toList E
 rcases findNow_spec hk es.toList 0 R with ⟨h1,M⟩ | ⟨j,e,h1,M,h3⟩
 . have:=hF.1 M
   simp [Instr.lookup,run_underlying hm,Go.MapKept.run_getObj_map hb,Go.MapKept.run_checkKey hd hk,Go.MapKept.run_findKey hd h1,Result.andThen,Y,DiskD.find,this,uk]
 . obtain ⟨p,hp,hv⟩:=hF.2 j e M h3 h.names
   simp [Instr.lookup,run_underlying hm,Go.MapKept.run_getObj_map hb,Go.MapKept.run_checkKey hd hk,Go.MapKept.run_findKey hd h1,Result.andThen,DiskD.find,hp,hv,uk]
theorem DiskAt.cell {base:Nat} {w:World} {D:DiskD} (h:DiskAt base w D) (i:Nat) (v:Value) (hv:D.head[i]?=some v):w.cell? ⟨D.blk,i,none⟩=some v:=by
 unfold World.cell?; rw [show w.heap[(⟨D.blk,i,none⟩:Addr).block]?=_ from h.head]; exact hv
theorem DiskAt.frozen {base:Nat} {w:World} {D:DiskD} (h:DiskAt base w D) (i:Nat):w.frozen? ⟨D.blk,i,none⟩=false:=by
 unfold World.frozen?; rw [show w.heap[(⟨D.blk,i,none⟩:Addr).block]?=_ from h.head]; rfl
theorem anm (base:Nat) (w:World) (hb:base<=w.heap.size) (cap:Int) (hc:0<=cap/\cap<=16777216) :
 DiskAt base ((w.alloc (.map #[] 0)).alloc (.cells #[.int .i64 (-1),.bool false,.map (some w.heap.size),.slice none 0 0,.int .i64 cap] 67)) ⟨w.heap.size+1,-1,false,w.heap.size,[],.slice none 0 0,[],cap⟩:=by
 have A:(w.alloc (.map #[] 0)).heap.size=w.heap.size+1:=World.size_alloc _ _;refine ⟨?_,⟨#[],0,?_,stamped_empty 0,rfl⟩,λp hp=>(by cases hp),⟨rfl,.inl ⟨rfl,rfl⟩⟩,List.nodup_nil,List.nodup_nil,⟨by show w.heap.size+1≠w.heap.size; omega,λp hp=>(by cases hp),λk hk=>(by cases hk)⟩,⟨by show base<=w.heap.size+1; omega,hb,λp hp=>(by cases hp)⟩,⟨by show (-1:Int) <= -1; omega,by show (-1:Int)<=_; omega,hc.1,hc.2⟩,hc.1,λx B=>(by cases B)⟩
 . show _[w.heap.size+1]?=_
   rw [<- A]; exact heap_alloc_new _ _
 . show _[w.heap.size]?=_
   rw [Below.heap_alloc _ _ _ (by rw [A]; omega)]; exact heap_alloc_new _ _
theorem new_any (c:Int) (base:Nat) (w:World) (hb:base<=w.heap.size) :
 Calls Tryz.prog 6 #[.int .i64 c] w λe w'=>∃ D,e=.returned (.pointer (some ⟨D.blk,0,none⟩))/\DiskAt base w' D/\Below w.heap.size w w'/\w.heap.size<=D.blk/\w.heap.size<=D.mB /\
  D.left = -1/\D.down=false/\D.files=[]/\D.waits=[]/\D.wv=.slice none 0 0/\D.cap=min (max c 0) 16777216:=by
 have E:∀ w:World,(Instr.makeMap 64 none).run Tryz.prog w=.ok (.map (some w.heap.size)) (w.alloc (.map #[] 0)):=λ_=>rfl
 have A:∀ o,Below w.heap.size w ((w.alloc (.map #[] 0)).alloc o):=λo=>((Below.refl _ _).alloc (Nat.le_refl _) _).alloc (by simp) _
 have B:=anm base w hb;have F:=zq A;have I:=zq B;clear A B hb;go_enter Tryz.func6,Tryz.ntmps6;go_wp2_with fail
 all_goals
  go_ret;refine ⟨_,rfl,I.o _ (by omega),F.o _,by simp,Nat.le_refl _,rfl,rfl,rfl,rfl,rfl,?_⟩
  first | (dsimp only; done) | (dsimp only; omega)
theorem abo {base:Nat} {D:DiskD} (w:World) (h:DiskAt base w D) :
 Calls Tryz.prog 114 #[.pointer (some ⟨D.blk,0,none⟩)] w λe w'=>e=.returned (.bool D.down)/\w'=w:=by
 have c1:w.cell? ⟨D.blk,1,none⟩=some (.bool D.down):=h.cell 1 _ rfl;clear h;go_enter Tryz.func114,Tryz.ntmps114;go_wp2_with fail;go_ret;exact ⟨rfl,rfl⟩
theorem bars_any {base:Nat} {D:DiskD} (a:Option Addr) (cap:Nat) (ns:List (List UInt8)) (hns:ns.length<=1048576) (w:World) (h:DiskAt base w D) (hr:Row1 w a (ns.map λx=>.string (S x))) :
 Calls Tryz.prog 174 #[.pointer (some ⟨D.blk,0,none⟩),.slice a ns.length cap] w λe w'=>e=.returned (.int .i64 (D.bars ns))/\w'=w:=by
 have c1:w.cell? ⟨D.blk,1,none⟩=some (.bool D.down):=h.cell 1 _ rfl;have c2:w.cell? ⟨D.blk,2,none⟩=some (.map (some D.mB)):=h.cell 2 _ rfl;have X:=zq (λn=>kr h n);have Y:=zq hr;have I:Zq (D.bars ns=if D.down then 8 else if ns.all λn=>(D.find n).isSome then 0 else 9):=rfl;clear h hr;generalize D.down=dn at *
 cases dn
 ·
  go_enter Tryz.func174,Tryz.ntmps174;go_wp2_with fail;go_loopw [18] (λi wr=>∃ k:Nat,k<=ns.length/\i=.int .i64 (k:Int)/\Zq ((ns.take k).all λn=>(D.find n).isSome)/\wr=w) (λi _=>ns.length+1 - (intOf i).toNat)
  case atStart=>exact ⟨0,by omega,rfl,rfl,rfl⟩
  case round =>
   obtain ⟨k,hk,rfl,N,rfl⟩:=hrel
   by_cases hlt:k < ns.length
   ·
    obtain ⟨b,off,O,B⟩:=Y.o k (by rw [List.length_map]; exact hlt);rw [List.getElem_map] at B;have A:=X.o ns[k]
    have J:(ns.take (k+1)).all (λn=>(D.find n).isSome)=((ns.take k).all (λn=>(D.find n).isSome) && (D.find ns[k]).isSome):=by
     rw [List.take_succ_eq_append_getElem hlt,List.all_append]; simp
    have M:(D.find ns[k]).isSome=false->(ns.all λn=>(D.find n).isSome)=false:=λh=>by
     rw [List.all_eq_false]; exact ⟨ns[k],List.getElem_mem hlt,by rw [h]; simp⟩
    have E:=zq J;have F:=zq M;clear J M;generalize ns[k]=x at *
    generalize D.find x=f at *
    rw [O] at *
    cases f with
    | none =>
      have R:Zq (D.bars ns=9):=by show _=_; rw [I.o,F.o rfl]; rfl
      clear E F I;unfold uk at A;simp only [Option.map_none] at A;go_wp2_with fail;go_ret;rw [R.o];exact ⟨rfl,rfl⟩
    | some f =>
      have U:Zq ((ns.take (k+1)).all (λn=>(D.find n).isSome)=true):=by show _=_; rw [E.o,N.o]; rfl
      clear E F N;unfold uk at A;simp only [Option.map_some] at A;go_wp2_with fail;go_roundw
      case rel=>exact ⟨k+1,by omega,by go_num,U,trivial⟩
      case measure=>simp [intOf]; omega
   ·
    obtain rfl:k=ns.length:=by omega
    rw [List.take_length] at N;have R:Zq (D.bars ns=0):=by show _=_; rw [I.o,N.o]; rfl
    clear I;go_wp2_with fail;go_ret;rw [R.o];exact ⟨rfl,rfl⟩
 ·
  go_enter Tryz.func174,Tryz.ntmps174;go_wp2_with fail;go_ret;rw [I.o];exact ⟨rfl,rfl⟩
theorem DiskAt.rehead {base:Nat} {w w':World} {D:DiskD} (h:DiskAt base w D) (l:Int) (d:Bool) (hl : -1<=l/\l<=9223372036854775807) (hm:Mod (λk=>k=D.blk) w w')
 (hh:w'.heap[D.blk]?=some (.cells ({ D with left:=l,down:=d }:DiskD).head 67 (0,0))):DiskAt base w' { D with left:=l,down:=d }:=by
 have key:∀ k,D.foot k->k≠D.blk->w'.heap[k]?=w.heap[k]?:=λk hk B=>hm.block k (h.lt hk) B
 obtain ⟨es,c,m1,m2,m3⟩:=h.map;refine ⟨hh,⟨es,c,(key _ (.inr (.inl rfl)) (λe=>h.apart.1 e.symm)).trans m1,m2,m3⟩,λp hp=>(key _ (.inr (.inr (.inl ⟨p,hp,rfl⟩))) (h.apart.2.1 p hp).1).trans (h.file p hp),?_,h.names,h.blocks,h.apart,h.above,⟨hl.1,hl.2,h.ints.2.2⟩,h.fits,h.waitf⟩;refine ⟨h.row.1,?_⟩
 rcases h.row.2 with h0 | ⟨g,cap,cur,e,hb,hg,r⟩
 . exact .inl h0
 . have A:D.wv.ownBlock=some g:=by rw [e]; rfl
   exact .inr ⟨g,cap,cur,e,hb,(key g (.inr (.inr (.inr A))) (h.apart.2.2 g A).1).trans hg,r⟩
theorem heap_set1 {w:World} {B i:Nat} {cs:Array Value} {ty:TypeId} (h:w.heap[B]?=some (.cells cs ty (0,0))) (v:Value) {cs':Array Value} (he:cs.setIfInBounds i v=cs') :
 (w.setCell ⟨B,i,none⟩ v).heap[B]?=some (.cells cs' ty (0,0)):=by rw [<- he]; exact heap_setCell_same w B i cs ty v h
theorem jv (w:World) (B i:Nat) (v:Value):Mod (λk=>k=B) w (w.setCell ⟨B,i,none⟩ v):=(Mod.refl (λk=>k=B) w).setCell (a:=⟨B,i,none⟩) (.inl rfl) v
theorem ann {base:Nat} {D:DiskD} (w:World) (h:DiskAt base w D) :
 Calls Tryz.prog 232 #[.pointer (some ⟨D.blk,0,none⟩)] w λe w'=>e=.returned (.bool (!decide (D.left=0)))/\DiskAt base w' D.burn/\Mod (λk=>k=D.blk) w w':=by
 have c0:w.cell? ⟨D.blk,0,none⟩=some (.int .i64 D.left):=h.cell 0 _ rfl;have c1:w.cell? ⟨D.blk,1,none⟩=some (.bool D.down):=h.cell 1 _ rfl;have I:=h.frozen;have J:=h.ints.1;have M:=h.ints.2.1;have A:=zq h;have E:Zq (D.burn=if D.left=0 then { D with left := -1,down:=true } else if 0 < D.left then { D with left:=D.left - 1 } else D):=rfl;clear h
 by_cases h0:D.left=0
 ·
  have B:Zq (Mod (λk=>k=D.blk) w ((w.setCell ⟨D.blk,0,none⟩ (.int .i64 (-1))).setCell ⟨D.blk,1,none⟩ (.bool true))):=(jv _ _ _ _).trans (jv _ _ _ _)
  have F:Zq (((w.setCell ⟨D.blk,0,none⟩ (.int .i64 (-1))).setCell ⟨D.blk,1,none⟩ (.bool true)).heap[D.blk]?=some (.cells ({ D with left := -1,down:=true }:DiskD).head 67 (0,0))) :=
   heap_set1 (heap_set1 A.o.head _ rfl) _ rfl
  rw [h0] at c0;go_enter Tryz.func232,Tryz.ntmps232;go_wp2_with fail;go_ret;refine ⟨by rw [h0]; rfl,?_,B.o⟩;rw [E.o,if_pos h0];exact A.o.rehead _ _ (by omega) B.o F.o
 ·
  have O:(D.left == 0)=false:=by simp [h0]
  have hd:decide (D.left=0)=false:=decide_eq_false h0
  by_cases h1:0 < D.left
  ·
   have B:Zq (Mod (λk=>k=D.blk) w (w.setCell ⟨D.blk,0,none⟩ (.int .i64 (D.left - 1)))):=jv _ _ _ _;have F:Zq ((w.setCell ⟨D.blk,0,none⟩ (.int .i64 (D.left - 1))).heap[D.blk]?=some (.cells ({ D with left:=D.left - 1 }:DiskD).head 67 (0,0))):=heap_set1 A.o.head _ rfl;have N:decide (0 < D.left)=true:=decide_eq_true h1;go_enter Tryz.func232,Tryz.ntmps232;go_wp2_with fail;go_ret;refine ⟨by rw [hd]; rfl,?_,B.o⟩;rw [E.o,if_neg h0,if_pos h1];exact A.o.rehead _ D.down (by omega) B.o F.o
  ·
   have N:decide (0 < D.left)=false:=decide_eq_false h1;go_enter Tryz.func232,Tryz.ntmps232;go_wp2_with fail;go_ret;refine ⟨by rfl,?_,Mod.refl _ _⟩;rw [E.o,if_neg h0,if_neg (by omega)];exact A.o
def DiskD.done (D:DiskD):Int:=if D.left=0 then 8 else 0
theorem abp {base:Nat} {D:DiskD} (w:World) (h:DiskAt base w D) :
 Calls Tryz.prog 175 #[.pointer (some ⟨D.blk,0,none⟩)] w λe w'=>e=.returned (.int .i64 D.done)/\DiskAt base w' D.burn/\Mod (λk=>k=D.blk) w w':=by
 have B:=zq (ann w h);have A:Zq (D.done=if D.left=0 then 8 else 0):=rfl;clear h;go_enter Tryz.func175,Tryz.ntmps175;go_wp2_with fail;refine B.o.mono ?_;rintro e w2 ⟨rfl,hd,E⟩;have F:=zq hd;have I:=zq E;clear hd E B
 by_cases h0:D.left=0
 ·
  have hd:decide (D.left=0)=true:=decide_eq_true h0;rw [if_pos h0] at A;rw [hd];go_wp2_with fail;go_ret;rw [A.o];exact ⟨rfl,F.o,I.o⟩
 ·
  have hd:decide (D.left=0)=false:=decide_eq_false h0;rw [if_neg h0] at A;rw [hd];go_wp2_with fail;go_ret;rw [A.o];exact ⟨rfl,F.o,I.o⟩
open Go.ChangeMaps
/-! a loop over a map's entries: each comes once -/
theorem ags (es:Array MapEntry) (seen:Array Nat) (b:Nat):(leftOf es (seen.push b)).toList=(leftOf es seen).toList.filter (λx=>!(x.born == b)):=by
 unfold leftOf;simp only [Array.toList_filter,List.filter_filter];apply List.filter_congr;intro x _;simp only [Array.contains_push]
 cases h1:seen.contains x.born <;> cases h2:(x.born == b) <;> simp_all
theorem ain (es:Array MapEntry):(leftOf es #[]).toList=es.toList:=by
 unfold leftOf;simp
theorem af0 {es:Array MapEntry} (h:(es.toList.map (·.born)).Nodup) (seen:Array Nat):((leftOf es seen).toList.map (·.born)).Nodup:=by
 unfold leftOf;rw [Array.toList_filter];exact (List.filter_sublist.map _).nodup h
theorem aio (f:MapEntry->Nat):∀ (l:List MapEntry) (e:MapEntry),e∈l->(l.map (·.born)).Nodup->(l.map f).sum=f e+((l.filter λx=>!(x.born == e.born)).map f).sum/\(l.filter λx=>!(x.born == e.born)).length+1=l.length:=by
 intro l
 induction l with
 | nil=>intro e A; cases A
 | cons x l ih =>
   intro e A B;simp only [List.map_cons,List.nodup_cons] at B
   rcases List.mem_cons.1 A with rfl | A
   ·
    have E:l.filter (λx=>!(x.born == e.born))=l:=by
     rw [List.filter_eq_self];intro y I;simp only [Bool.not_eq_true',beq_eq_false_iff_ne];intro h; exact B.1 (h ▸ List.mem_map.2 ⟨y,I,rfl⟩)
    rw [List.filter_cons_of_neg (by simp),E];exact ⟨by simp,rfl⟩
   ·
    have F:(x.born == e.born)=false:=by
     rw [beq_eq_false_iff_ne]; intro h; exact B.1 (h ▸ List.mem_map.2 ⟨e,A,rfl⟩)
    obtain ⟨h1,J⟩:=ih e A B.2;rw [List.filter_cons_of_pos (by rw [F]; rfl)];simp only [List.map_cons,List.sum_cons,List.length_cons,h1];exact ⟨by omega,by omega⟩
def wtL (fs:List (List UInt8×FileD)) (v:Value):Nat:=match v with
 | .pointer (some a)=>((fs.find? λp=>p.2.blk == a.block).map (·.2.now.length)).getD 0
 | _=>0
theorem qz:∀ (A:List (List UInt8×FileD)),(A.map (·.2.blk)).Nodup->∀ p∈A,A.find? (λq=>q.2.blk == p.2.blk)=some p:=by
 intro A
 induction A with
 | nil=>intro _ p hp; cases hp
 | cons x l ih =>
   intro B p hp;simp only [List.map_cons,List.nodup_cons] at B
   rcases List.mem_cons.1 hp with rfl | hp
   . simp
   . have E:(x.2.blk == p.2.blk)=false:=by
      rw [beq_eq_false_iff_ne]; intro h; exact B.1 (h ▸ List.mem_map.2 ⟨p,hp,rfl⟩)
     rw [List.find?_cons,E];exact ih B.2 p hp
theorem ar8 {fs:List (List UInt8×FileD)} {l:List MapEntry} (hn:(fs.map (·.2.blk)).Nodup) (h:l.map (λe:MapEntry=>(e.key,e.val))=fs.map (λp=>(Value.string (S p.1),Value.pointer (some ⟨p.2.blk,0,none⟩)))) :
 (l.map λe=>wtL fs e.val).sum=gp fs:=by
 have A:l.map (λe=>wtL fs e.val)=(l.map (λe:MapEntry=>(e.key,e.val))).map (λq=>wtL fs q.2):=by rw [List.map_map]; rfl
 rw [A,h,List.map_map];unfold gp;congr 1;apply List.map_congr_left;intro p hp;show wtL fs (.pointer (some ⟨p.2.blk,0,none⟩))=_;show ((fs.find? λq=>q.2.blk == p.2.blk).map (·.2.now.length)).getD 0=_;rw [qz fs hn p hp]; rfl
theorem yu {fs:List (List UInt8×FileD)} {l:List MapEntry} (h:l.map (λe:MapEntry=>(e.key,e.val))=fs.map (λp=>(Value.string (S p.1),Value.pointer (some ⟨p.2.blk,0,none⟩)))) {e:MapEntry} (he:e∈l) :
 ∃ p∈fs,e.key=.string (S p.1)/\e.val=.pointer (some ⟨p.2.blk,0,none⟩):=by
 have:(e.key,e.val)∈fs.map (λp=>(Value.string (S p.1),Value.pointer (some ⟨p.2.blk,0,none⟩))):=by rw [<- h]; exact List.mem_map.2 ⟨e,he,rfl⟩
 obtain ⟨p,hp,A⟩:=List.mem_map.1 this;exact ⟨p,hp,(Prod.mk.inj A).1.symm,(Prod.mk.inj A).2.symm⟩
structure Iter (w:World) (b r:Nat) (es:Array MapEntry) (clk:Nat) (seen:Array Nat):Prop where
 map:w.heap[b]?=some (.map es clk)
 iter:w.heap[r]?=some (.mapIter (some b) clk seen clk)
theorem ak9 {w:World} {b r:Nat} {es:Array MapEntry} {clk:Nat} {seen:Array Nat} (h:Iter w b r es clk seen) (hne:r≠b) (hst:Stamped es clk) (P:Program) (ty:TypeId) :
 ((leftOf es seen).size=0/\(Instr.next (.pointer (some ⟨r,0,none⟩)) false ty).run P w=.ok (.tuple #[.bool false]) w) \/
 ∃ e∈(leftOf es seen).toList,∃ w1:World,Iter w1 b r es clk (seen.push e.born)/\Mod (λk=>k=r) w w1/\(Instr.next (.pointer (some ⟨r,0,none⟩)) false ty).run P w=.ok (.tuple #[.bool true,e.key,e.val]) w1 /\
  (Instr.entry (.pointer (some ⟨r,0,none⟩))).run P w1=.ok (.tuple #[e.key,e.val]) w1:=by
 rcases run_next_at (P:=P) w ty r b clk clk seen es clk h.iter h.map hst.1 (Nat.le_refl _) with h0 | ⟨e,he,w1,hw1,hrun⟩
 . exact .inl h0
 ·
  right
  have A:w1.heap[r]?=some (.mapIter (some b) clk seen clk):=by rcases hw1 with rfl | rfl <;> exact h.iter
  have B:w1.heap[b]?=some (.map es clk):=by rcases hw1 with rfl | rfl <;> exact h.map
  have E:r < w1.heap.size:=(Array.getElem?_eq_some_iff.1 A).1
  have F:Iter (setBlock w1 r (.mapIter (some b) clk (seen.push e.born) clk)) b r es clk (seen.push e.born):=by
   refine ⟨?_,?_⟩
   . show (w1.heap.setIfInBounds r _)[b]?=_
     rw [Array.getElem?_setIfInBounds_ne hne]; exact B
   . show (w1.heap.setIfInBounds r _)[r]?=_
     simp [E]
  have I:e∈es.toList:=by
   unfold leftOf at he;rw [Array.toList_filter] at he;exact (List.mem_filter.1 he).1
  refine ⟨e,he,_,F,?_,hrun,run_entry_at _ r b clk seen es clk e F.iter F.map I hst.2.1⟩
  have J:Mod (λk=>k=r) w w1:=by
   rcases hw1 with rfl | rfl
   . exact Mod.refl _ _
   . exact (Mod.refl _ _).drew
  refine J.trans ⟨rfl,rfl,rfl,by simp [setBlock],λk hk M=>?_⟩;show (w1.heap.setIfInBounds r _)[k]?=_;exact Array.getElem?_setIfInBounds_ne (λe=>M e.symm)
theorem size_any {base:Nat} {D:DiskD} (w:World) (h:DiskAt base w D) :
 Calls Tryz.prog 191 #[.pointer (some ⟨D.blk,0,none⟩)] w λe w'=>e=.returned (.int .i64 (D.size:Int))/\Below w.heap.size w w':=by
 have c2:w.cell? ⟨D.blk,2,none⟩=some (.map (some D.mB)):=h.cell 2 _ rfl;obtain ⟨es,A,hb,X,B⟩:=h.map;have Y:=Tryz.underlying64
 have an:(Instr.range 64 (.map (some D.mB))).run Tryz.prog w=.ok (.pointer (some ⟨w.heap.size,0,none⟩)) (w.alloc (.mapIter (some D.mB) A #[] A)):=by
  simp [Instr.range,run_underlying Y,Go.MapKept.run_getObj_map hb,Result.andThen]
 have Z:=zq h;clear h;go_enter Tryz.func191,Tryz.ntmps191;go_wp2_with fail;have a7:D.mB < w.heap.size:=(Array.getElem?_eq_some_iff.1 hb).1;have HS:Zq ((es.toList.map λe=>wtL D.files e.val).sum=D.size):=ar8 Z.o.blocks B;have HM:=zq B;have HI:Zq (Iter (w.alloc (.mapIter (some D.mB) A #[] A)) D.mB w.heap.size es A #[]):=⟨(Below.heap_alloc _ _ _ (by omega)).trans hb,heap_alloc_new _ _⟩;have HB:Zq (Below w.heap.size w (w.alloc (.mapIter (some D.mB) A #[] A))):=(Below.refl _ _).alloc (Nat.le_refl _) _;have O:=zq X;have ab:(D.size:Int)<=16777216:=by have h1:=Z.o.fits; have h2:=Z.o.ints; omega
 clear B hb X Y an;generalize w.alloc (.mapIter (some D.mB) A #[] A)=w1 at *
 generalize hr:w.heap.size=r at *
 have ac:w.heap.size=r:=hr;clear hr;obtain ⟨sz,F⟩:∃ s,D.size=s:=⟨_,rfl⟩;rw [F] at HS ab;have ao:=zq F;clear F;go_loopw [3] (λi wr=>∃ (seen:Array Nat) (k:Nat),i=.int .i64 (k:Int)/\Zq (k+((leftOf es seen).toList.map λe=>wtL D.files e.val).sum=sz)/\Zq (Iter wr D.mB r es A seen)/\Zq (Below r w wr)) (λ_ wr=>match wr.heap[D.mB]?,wr.heap[r]? with | some (.map es _),some (.mapIter _ _ seen _)=>(leftOf es seen).size | _,_=>0)
 case atStart=>exact ⟨#[],0,rfl,by show _=_; rw [ain,HS.o]; omega,HI.o,HB.o⟩
 case round =>
  obtain ⟨seen,k,rfl,HK,I,R⟩:=hrel;clear HI HB
  rcases ak9 I.o (by omega) O.o Tryz.prog 0 with ⟨h0,hrun⟩ | ⟨e,he,w2,hi,Y,hrun,hent⟩
  ·
   have J:(leftOf es seen).toList=[]:=by rw [<- List.length_eq_zero_iff,Array.length_toList]; exact h0
   have ap:Zq (k=sz):=by show _=_; have:=HK.o; rw [J] at this; simpa using this
   clear HK J h0 I O;go_wp2_with fail;go_ret;rw [ao.o,ap.o];exact ⟨rfl,by rw [ac]; exact R.o⟩
  ·
   have M:e∈es.toList:=by
    unfold leftOf at he;rw [Array.toList_filter] at he;exact (List.mem_filter.1 he).1
   obtain ⟨p,hp,N,E⟩:=yu HM.o M;have ad:Below r wr w2:=Y.to_below r (by have:=R.o.size; omega) (λk hk=>by omega);have ak:=zq (R.o.trans ad)
   have hc:w2.cell? ⟨p.2.blk,1,none⟩=some (.string (S p.2.now)):=by
    have:=(Z.o.below (ac ▸ ak.o)).file p hp;unfold World.cell?; rw [show w2.heap[(⟨p.2.blk,1,none⟩:Addr).block]?=_ from this]; rfl
   have hw:wtL D.files e.val=p.2.now.length:=by
    rw [E];show ((D.files.find? λq=>q.2.blk == p.2.blk).map (·.2.now.length)).getD 0=_;rw [qz D.files Z.o.blocks p hp]; rfl
   obtain ⟨s1,s2⟩:=aio (λe=>wtL D.files e.val) _ e he (af0 O.o.2.1 seen);rw [<- ags] at s1 s2;have al:Zq (k+p.2.now.length+((leftOf es (seen.push e.born)).toList.map λe=>wtL D.files e.val).sum=sz):=by show _=_; have:=HK.o; omega
   have ar:Zq ((leftOf es (seen.push e.born)).size < (leftOf es seen).size):=by show _ < _; rw [<- Array.length_toList,<- Array.length_toList]; omega
   have U:=zq hi;have bb:(k:Int)+(p.2.now.length:Int)<=16777216:=by have:=al.o; omega
   have F:=au;rw [N,E] at hrun hent;clear he M N E hw s1 s2 HK hi Y ad;generalize p.2.now=nw at *
   generalize p.2.blk=pb at *
   go_wp2_with fail;go_roundw
   case rel=>exact ⟨seen.push e.born,k+nw.length,by go_num,al,U,ak⟩
   case measure =>
    rw [U.o.map,U.o.iter,I.o.map,I.o.iter];exact ar.o
def Ext (u v:World):Prop:=Below u.heap.size u v
theorem Ext.refl (w:World):Ext w w:=Below.refl _ _
theorem Ext.trans {u v w:World} (h:Ext u v) (k:Ext v w):Ext u w:=Below.trans h (Below.mono k h.size)
def DiskD.room (D:DiskD):Int:=D.cap - (D.size:Int)
theorem room_any {base:Nat} {D:DiskD} (w:World) (h:DiskAt base w D) :
 Calls Tryz.prog 115 #[.pointer (some ⟨D.blk,0,none⟩)] w λe w'=>e=.returned (.int .i64 D.room)/\Below w.heap.size w w':=by
 have F:=zq h;have J:Zq (D.room=D.cap - (D.size:Int)):=rfl;have h1:=h.ints.2.2;have R:=h.fits;have M:IntKind.i64.wrap (D.cap - (D.size:Int))=D.cap - (D.size:Int):=IntWalk.i64_in _ (by omega);clear h;go_enter Tryz.func115,Tryz.ntmps115;go_wp2_with fail;refine Grow.jc 8 [none,none,none,some (.inl (.int .i64 D.cap)),none,some (.inl (.int .i64 (D.size:Int))),none,none] Ext (by kernel_rfl) (by kernel_rfl) (by kernel_rfl) Ext.refl (λ_ _ _=>Ext.trans) ?_ ?_
 . intro K I Y N v w w' U h
   simp only [List.mem_cons,List.not_mem_nil,or_false] at I
   rcases I with rfl | rfl | rfl | rfl | rfl | rfl | rfl | rfl <;> simp only [reduceCtorEq,Option.some.injEq,Sum.inr.injEq] at N
 simp only [List.take_succ_cons,List.take_zero,List.drop_succ_cons,List.drop_zero]
 iterate 3
  refine Grow.g_det rfl ?_;apply Exists.intro;refine ⟨λw2 B A=>?_,?_⟩
  . clear A
    go_simp;exact ⟨rfl,Ext.refl _⟩
  go_frame
 refine Grow.g_con rfl (λw2 B A=>?_) ?_
 ·
  clear A;have c4:w2.cell? ⟨D.blk,4,none⟩=some (.int .i64 D.cap):=(F.o.below ((Below.refl _ _).drew.trans B)).cell 4 _ rfl;go_simp
  all_goals exact Ext.refl _
 go_frame;refine Grow.g_det rfl ?_;apply Exists.intro;refine ⟨λw2 B A=>?_,?_⟩
 . clear A
   go_simp;exact ⟨rfl,Ext.refl _⟩
 go_frame;refine Grow.g_con rfl (λw2 B A=>?_) ?_
 . clear A
   go_simp;exact (size_any w2 (F.o.below ((Below.refl _ _).drew.trans B))).mono λe w3 h=>⟨_,h.1,rfl,h.2⟩
 iterate 2
  go_frame;refine Grow.g_det rfl ?_;apply Exists.intro;refine ⟨λw2 B A=>?_,?_⟩
  . clear A
    go_simp;exact ⟨rfl,Ext.refl _⟩
 go_frame;refine Grow.g_nil λw3 E A=>?_
 clear A;refine wpList_nil ?_;have O:=zq ((Below.refl w.heap.size w).drew.trans E);clear E;go_wp2_with fail;go_ret;rw [J.o];exact ⟨rfl,O.o⟩
structure RowC (g:Nat) (l:List UInt8) (c:Nat) (w:World):Prop where
 row:Row g l w
 le:l.length<=c
 there:∀ j,j < c->(w.cell? ⟨g,j,none⟩).isSome=true
 free:∀ j,j < c->w.frozen? ⟨g,j,none⟩=false
def aqf (l:List UInt8) (o:Nat) (v:UInt8):List UInt8:=if o < l.length then l.set o v else l++[v]
def qd (l:List UInt8) (o:Nat) (vs:List UInt8):List UInt8:=l.take o++vs++l.drop (o+vs.length)
theorem ala (l:List UInt8) (o:Nat) (v:UInt8) (h:o<=l.length):aqf l o v=qd l o [v]:=by
 unfold aqf qd
 split
 . rename_i A
   rw [List.set_eq_take_append_cons_drop,if_pos A]; simp
 . have:o=l.length:=by omega
   subst this; simp
theorem alb (l:List UInt8) (o:Nat) (v:UInt8) (vs:List UInt8) (h:o<=l.length):qd (qd l o [v]) (o+1) vs=qd l o (v :: vs):=by
 unfold qd
 have h1:(l.take o++[v]++l.drop (o+[v].length)).take (o+1)=l.take o++[v]:=by
  rw [List.take_append_of_le_length (by simp; omega)];rw [List.take_of_length_le (by simp; omega)]
 have A:(l.take o++[v]++l.drop (o+[v].length)).drop (o+1+vs.length)=l.drop (o+(v :: vs).length):=by
  rw [List.drop_append,List.drop_of_length_le (by simp; omega)];simp only [List.length_append,List.length_take,List.length_cons,List.length_nil,List.drop_drop,List.nil_append];congr 1; omega
 rw [h1,A]; simp
theorem ano (l:List UInt8) (o:Nat):qd l o []=l:=by unfold qd; simp
theorem rq (l:List UInt8) (o:Nat) (vs:List UInt8) (h:o<=l.length):(qd l o vs).length=max l.length (o+vs.length):=by
 unfold qd; simp only [List.length_append,List.length_take,List.length_drop]; omega
theorem RowC.put {g:Nat} {l:List UInt8} {c:Nat} {w:World} (h:RowC g l c w) (o:Nat) (ho:o<=l.length) (hc:o < c) (v:UInt8):RowC g (aqf l o v) c (w.setCell ⟨g,o,none⟩ (.int .u8 (v.toNat:Int))):=by
 have A:∀ j,j < c->((w.setCell ⟨g,o,none⟩ (.int .u8 (v.toNat:Int))).cell? ⟨g,j,none⟩).isSome=true:=λj E=>by
  by_cases e:o=j
  . subst e
    obtain ⟨u,hu⟩:=Option.isSome_iff_exists.1 (h.there o E);rw [World.cell?_setCell_same _ _ _ hu]; rfl
  . rw [World.cell?_setCell_other _ _ _ _ (λq=>e (congrArg Addr.off q))]; exact h.there j E
 have B:∀ j,j < c->(w.setCell ⟨g,o,none⟩ (.int .u8 (v.toNat:Int))).frozen? ⟨g,j,none⟩=false:=λj E=>by rw [World.frozen?_setCell]; exact h.free j E
 unfold aqf
 split
 . rename_i I
   exact ⟨h.row.set o I v,by simpa using h.le,A,B⟩
 ·
  have J:o=l.length:=by omega
  subst J;refine ⟨⟨by simpa using h.row.lt,λj E=>?_,λj E=>?_⟩,by simp; omega,A,B⟩
  ·
   by_cases e:j < l.length
   . rw [World.cell?_setCell_other _ _ _ _ (λq=>by have:=congrArg Addr.off q; simp at this; omega),List.getElem_append_left e]; exact h.row.cell j e
   . have F:j=l.length:=by simp at E; omega
     subst F;obtain ⟨u,hu⟩:=Option.isSome_iff_exists.1 (h.there _ hc);rw [World.cell?_setCell_same _ _ _ hu]; simp
  . rw [World.frozen?_setCell]; exact h.free j (by simp at E; omega)
theorem RowC.puts {g c:Nat}:∀ (vs:List UInt8) (l:List UInt8) (o:Nat) (w:World),RowC g l c w->o<=l.length->o+vs.length<=c ->
 RowC g (qd l o vs) c (w.setCells g o (vs.map λx=>Value.int .u8 (x.toNat:Int)))/\Mod (λk=>k=g) w (w.setCells g o (vs.map λx=>Value.int .u8 (x.toNat:Int)))
 | [],l,o,w,h,_,_=>by rw [ano]; exact ⟨h,Mod.refl _ _⟩
 | v :: vs,l,o,w,h,ho,hc=>by
   simp only [List.length_cons] at hc;have h1:=h.put o ho (by omega) v;rw [ala l o v ho] at h1;obtain ⟨A,B⟩:=RowC.puts vs _ (o+1) _ h1 (by rw [rq _ _ _ ho]; simp only [List.length_cons,List.length_nil]; omega) (by omega);rw [alb l o v vs ho] at A;exact ⟨A,(jv w g o _).trans B⟩
theorem aip {P:Program} (w:World) (src dst e:TypeId) (l:List UInt8) (hs:P.underlying src=some .string) (hd:P.underlying dst=some (.slice e)) (he:P.underlying e=some (.int .u8)) :
 ∃ c w',(convert src dst (.string (S l))).run P w=.ok (.slice (some ⟨w.heap.size,0,none⟩) l.length c) w'/\Below w.heap.size w w'/\RowC w.heap.size l c w':=by
 have F:(S l).size=l.length:=au l
 have hC:(Lib.bytesCells w e (S l)).size=grownCap w (S l).size 0 e:=by
  have:=grownCap_ge w (S l).size 0 e;unfold Lib.bytesCells; rw [Array.size_append,Array.size_map,Array.size_replicate];have J:(S l).data.size=(S l).size:=rfl;omega
 have I:=grownCap_ge w (S l).size 0 e
 have B:∀ j,j < grownCap w (S l).size 0 e->((Lib.bytesWorld w e (S l)).cell? ⟨w.heap.size,j,none⟩).isSome=true:=λj E=>by
  unfold World.cell?;rw [show (Lib.bytesWorld w e (S l)).heap[(⟨w.heap.size,j,none⟩:Addr).block]?=_ from Lib.bytesWorld_at_new w e (S l)];simp [hC,E]
 have A:∀ j,j < grownCap w (S l).size 0 e->(Lib.bytesWorld w e (S l)).frozen? ⟨w.heap.size,j,none⟩=false:=λj E=>by
  unfold World.frozen?;rw [show (Lib.bytesWorld w e (S l)).heap[(⟨w.heap.size,j,none⟩:Addr).block]?=_ from Lib.bytesWorld_at_new w e (S l)];simp [hC]; omega
 refine ⟨grownCap w (S l).size 0 e,Lib.bytesWorld w e (S l),by rw [Lib.run_convert_string_bytes w src dst e (S l) hs hd he,F],⟨?_,?_,?_,?_,?_⟩,⟨⟨by rw [Lib.bytesWorld_size]; omega,λj E=>?_,λj E=>A j (by omega)⟩,by omega,B,A⟩⟩
 iterate 3
  . simp [Lib.bytesWorld,World.freeze,World.alloc,World.drew,-World.alloc_eq,-World.drew_eq]
 . rw [Lib.bytesWorld_size]; omega
 . intro k hk; exact Lib.bytesWorld_at_old w e (S l) k hk
 . rw [Lib.bytesWorld_cell w e (S l) j (by omega)]
   have:(S l).data.toList=l:=by simp [S]
   rw [this]; simp [List.getD,E]
theorem af1 {P:Program} (w:World) (t tn ty e:TypeId) (i:TypeInfo) (ht:P.underlying t=some (.slice e)) (htn:P.underlying tn=some (.int .i64)) (hi:P.info? e=some i) (hz:i.zero=some (.int .u8 0)) (h1:i.size=1) (hb:i.bytes=1)
 {g:Nat} {l:List UInt8} {c:Nat} (h:RowC g l c w) (k:Nat) (hk:0 < k) (hlim:l.length+k<=70368744177664) :
 ∃ g' c' w',(Builtin.append_ #[t,tn] ty #[.slice (some ⟨g,0,none⟩) l.length c,.int .i64 (k:Int)]).run P w=.ok (.slice (some ⟨g',0,none⟩) (l.length+k) c') w'/\RowC g' (l++List.replicate k 0) c' w'/\Mod (λb=>b=g) w w'/\(g'=g\/w.heap.size<=g'):=by
 by_cases hroom:l.length+k<=c
 ·
  obtain ⟨hr,hm⟩:=h.puts (List.replicate k 0) l l.length w (Nat.le_refl _) (by simpa using hroom);have ac:qd l l.length (List.replicate k 0)=l++List.replicate k 0:=by unfold qd; simp
  rw [ac] at hr;have O:(List.replicate k (0:UInt8)).map (λx=>Value.int .u8 (x.toNat:Int))=List.replicate k (.int .u8 0):=by simp
  rw [O] at hr hm;refine ⟨g,c,_,?_,hr,hm,.inl rfl⟩;have hw:IntKind.i64.wrap (k:Int)=k:=by rw [IntKind.wrap_i64]; omega
  have R:¬ ((k:Int) < 0):=by omega
  have ad:¬ (281474976710656 < (k:Int)):=by omega
  have ak:k≠0:=by omega
  have U:=run_storeCells_cells (P:=P) g l.length (List.replicate k (.int .u8 0)) 0 w (λj B=>h.there _ (by simp at B; omega)) (λj B=>h.free _ (by simp at B; omega)) (λv hv=>by rw [List.eq_of_mem_replicate hv]; rfl);simp only [Nat.add_zero] at U
  have al:Builtin.zeroCells #[.int .u8 0] k=(List.replicate k (Value.int .u8 0)).toArray:=by
   apply Array.ext';simp only [Builtin.zeroCells,Array.toList_map,Array.toList_range];apply List.ext_getElem?;intro j;simp only [List.getElem?_map,List.getElem?_replicate]
   by_cases B:j < k
   . simp [B,Nat.mod_one]
   . simp [B]
  have N:(Value.int .u8 0).cells=#[.int .u8 0]:=rfl;have F:(⟨g,0,none⟩:Addr).add l.length=⟨g,l.length,none⟩:=by unfold Addr.add; split <;> simp_all
  simp [Builtin.append_,run_underlying ht,run_underlying htn,sizeOf,typeInfo,zeroValue,hi,hz,asInt,asIntOf,hw,R,h1,hb,ad,ak,hroom,Result.andThen,N,al,F,U]
 ·
  have am:l.length+k<=maxLen:=by unfold maxLen; omega
  have N:(Value.int .u8 0).cells=#[.int .u8 0]:=rfl
  have M:∀ (j:Nat) (u:Value),(l.map λx=>Value.int .u8 (x.toNat:Int))[j]?=some u->w.drew.cell? ((⟨g,0,none⟩:Addr).add j)=some u:=by
   intro j u hu;rw [List.getElem?_map] at hu
   have B:j < l.length:=by
    rcases Nat.lt_or_ge j l.length with h | h
    . exact h
    . rw [List.getElem?_eq_none h] at hu; cases hu
   rw [List.getElem?_eq_getElem B] at hu;have F:(⟨g,0,none⟩:Addr).add j=⟨g,j,none⟩:=by unfold Addr.add; split <;> simp_all
   rw [F];have:=h.row.cell j B
   cases hu; exact this
  have hold:(Builtin.firstCells i.size l.length (.slice (some ⟨g,0,none⟩) l.length c)).run P w.drew=.ok (l.map λx=>Value.int .u8 (x.toNat:Int)).toArray w.drew:=by
   have:=run_loadCells_list (P:=P) w.drew ⟨g,0,none⟩ (l.map λx=>Value.int .u8 (x.toNat:Int)) M;rw [List.length_map] at this;simp only [Builtin.firstCells,h1,Nat.mul_one];exact this
  have X:Builtin.nextslicecap (l.length+k) c * i.bytes<=281474976710656:=growslice_fits (by omega) (by rw [hb]; omega);have I:=Lib.run_append_grow_zeros (P:=P) w t tn ty e i (.int .u8 0) .i64 .i64 ht htn hi hz (some ⟨g,0,none⟩) l.length c _ hold k hk (by omega) (by omega) (by omega) (by rw [hb]; omega) X;have a1:=grownCap_ge w (l.length+k) c e;rw [N] at I
  have Y:∀ n,Builtin.zeroCells #[.int .u8 0] n=Array.replicate n (Value.int .u8 0):=by
   intro n;apply Array.ext';simp only [Builtin.zeroCells,Array.toList_map,Array.toList_range,Array.toList_replicate];apply List.ext_getElem?;intro j;simp only [List.getElem?_map,List.getElem?_replicate]
   by_cases B:j < n
   . simp [B,Nat.mod_one]
   . simp [B]
  rw [Y,Y] at I;have a6:((l.map λx=>Value.int .u8 (x.toNat:Int)).toArray++Array.replicate k (Value.int .u8 0)++Array.replicate (grownCap w (l.length+k) c e - (l.length+k)) (Value.int .u8 0)).size=grownCap w (l.length+k) c e:=by simp; omega
  have an:∀ (j:Nat) (B:j < (l++List.replicate k 0).length),((l.map λx=>Value.int .u8 (x.toNat:Int)).toArray++Array.replicate k (Value.int .u8 0)++Array.replicate (grownCap w (l.length+k) c e - (l.length+k)) (Value.int .u8 0))[j]?=some (.int .u8 ((l++List.replicate k 0)[j].toNat:Int)):=by
   intro j B;have ao:=B;simp only [List.length_append,List.length_replicate] at ao
   by_cases hl:j < l.length
   . rw [Array.getElem?_append_left (by simp; omega),Array.getElem?_append_left (by simp; omega),List.getElem_append_left hl]
     simp [hl]
   . rw [Array.getElem?_append_left (by simp; omega),Array.getElem?_append_right (by simp; omega),List.getElem_append_right (by omega)]
     simp only [List.size_toArray,List.length_map,List.getElem_replicate,Array.getElem?_replicate];rw [if_pos (by omega)]; rfl
  generalize (l.map λx=>Value.int .u8 (x.toNat:Int)).toArray++Array.replicate k (Value.int .u8 0)++Array.replicate (grownCap w (l.length+k) c e - (l.length+k)) (Value.int .u8 0)=A at *
  refine ⟨_,_,_,I,?_,⟨rfl,rfl,rfl,by simp,λb hb _=>(by first | exact heap_alloc_old w.drew _ hb | exact heap_alloc_old w.drew _ _ hb)⟩,.inr (Nat.le_refl _)⟩;have Z:(w.drew.alloc (.cells A e)).heap[w.heap.size]?=some (.cells A e):=heap_alloc_new w.drew _
  have E:∀ j,(w.drew.alloc (.cells A e)).cell? ⟨w.heap.size,j,none⟩=A[j]?:=λj=>by
   unfold World.cell?;rw [show (w.drew.alloc (.cells A e)).heap[(⟨w.heap.size,j,none⟩:Addr).block]?=_ from Z]; rfl
  have J:∀ j,(w.drew.alloc (.cells A e)).frozen? ⟨w.heap.size,j,none⟩=false:=λj=>by
   unfold World.frozen?;rw [show (w.drew.alloc (.cells A e)).heap[(⟨w.heap.size,j,none⟩:Addr).block]?=_ from Z];simp
  refine ⟨⟨by simp,λj B=>by rw [E]; exact an j B,λj _=>J j⟩,by simp; omega,λj B=>?_,λj _=>J j⟩;rw [E,Array.getElem?_eq_getElem (by omega)]; rfl
def laidL (s:List UInt8) (o:Nat) (t:List UInt8):List UInt8:=if t=[] then s else qd (s++List.replicate (o+t.length - s.length) 0) o t
theorem afb {P:Program} (dT sT ty e:TypeId) (hu:P.underlying dT=some (.slice e)) (hz:∀ w,(Go.sizeOf e).run P w=.ok 1 w) {g:Nat} {l:List UInt8} {c:Nat} {w:World} (h:RowC g l c w) (o:Nat) (t:List UInt8) (ho:o<=l.length) (hc:o+t.length<=c) (dl dc:Nat) (hdl:t.length<=dl) :
 (Builtin.copy_ #[dT,sT] ty #[.slice (some ⟨g,o,none⟩) dl dc,.string (S t)]).run P w=.ok (goInt (S t).size) (w.setCells g o (t.map λx=>Value.int .u8 (x.toNat:Int))):=by
 have A:(S t).data.toList=t:=by simp [S]
 have E:(S t).size=t.length:=au t;have:=Go.run_copy_string (P:=P) w dT sT ty e g o dl dc (S t) hu hz (by omega) (λj B=>h.there _ (by omega)) (λj B=>h.free _ (by omega));rw [A] at this;exact this
theorem S_toList (l:List UInt8):(S l).toList=l:=by rw [ByteArray.toList_eq,kg]
theorem anp (s:List UInt8) (o:Nat) (t:List UInt8) (hs:s.length<=1099511627776) (ho:o<=1099511627776) (ht:t.length<=1099511627776) (w:World) :
 Calls Tryz.prog 224 #[.string (S s),.int .i64 (o:Int),.string (S t)] w λe w'=>e=.returned (.string (S (laidL s o t)))/\Below w.heap.size w w':=by
 have bj:=au;have bk:=S_toList
 by_cases h0:t=[]
 ·
  subst h0;have hl:Zq (laidL s o []=s):=if_pos rfl;go_enter Tryz.func224,Tryz.ntmps224;go_wp2_with fail;go_ret;rw [hl.o];exact ⟨rfl,Below.refl _ _⟩
 have HL:Zq (laidL s o t=qd (s++List.replicate (o+t.length - s.length) 0) o t):=if_neg h0
 have bm:t.isEmpty=false:=by cases t with
  | nil=>exact absurd rfl h0
  | cons _ _=>rfl
 have bo:0 < t.length:=List.length_pos_iff.2 h0;obtain ⟨c,w1,N,ad,ak⟩:=aip (P:=Tryz.prog) w 9 241 5 s Tryz.underlying9 Tryz.underlying241 Tryz.underlying5;have A:=zq ak;have O:=zq ad;clear ak ad h0;go_enter Tryz.func224,Tryz.ntmps224;go_upto_region 5 with fail
 clear N;generalize hgw:w.heap.size=g at *
 have al:Zq (w.heap.size=g):=hgw;clear hgw
 obtain ⟨i0,J,R,M,U⟩:∃ i,Tryz.prog.info? 5=some i/\i.zero=some (.int .u8 0)/\i.size=1/\i.bytes=1:=by
  have:=(show (Tryz.prog.info? 5).map (λi=>(i.zero,i.size,i.bytes))=some (some (.int .u8 0),1,1) by kernel_rfl)
  cases hh:Tryz.prog.info? 5 with
  | none=>rw [hh] at this; cases this
  | some i=>rw [hh] at this; have h2:=Option.some.inj this; exact ⟨i,rfl,congrArg (·.1) h2,congrArg (·.2.1) h2,congrArg (·.2.2) h2⟩
 have am:Zq (∀ w,(Go.sizeOf 5).run Tryz.prog w=.ok 1 w):=λw=>by simp [sizeOf,typeInfo,J,M]
 by_cases hgr:s.length < o+t.length
 ·
  have an:(o:Int)+(t.length:Int) - (s.length:Int)=((o+t.length - s.length:Nat):Int):=by omega
  obtain ⟨g2,c2,w2,X,ao,ap,ar⟩:=af1 (P:=Tryz.prog) w1 241 3 241 5 i0 Tryz.underlying241 Tryz.underlying3 J R M U A.o (o+t.length - s.length) (by omega) (by omega);rw [an];have av:s.length+(o+t.length - s.length)=o+t.length:=by omega
  rw [av] at X;have a7:=zq X;have B:=zq ao;have a8:=zq ap;have ba:=zq ar;clear X ao ap ar an av J R M U;have a1:0 < o+t.length - s.length:=by omega
  have bb:¬ c2=o:=by have:=B.o.le; simp only [List.length_append,List.length_replicate] at this; omega
  have bh:(s++List.replicate (o+t.length - s.length) (0:UInt8)).length=o+t.length:=by simp; omega
  have E:=afb (P:=Tryz.prog) 241 9 3 5 Tryz.underlying241 am.o B.o o t (by omega) (by have:=B.o.le; omega) t.length (c2 - o) (Nat.le_refl _);obtain ⟨F,I⟩:=B.o.puts t _ o _ (by omega) (by have:=B.o.le; omega);have Y:=zq F;have Z:=zq I;have ab:=zq E;clear F I E;generalize o+t.length - s.length=k at *
  generalize hw3:w2.setCells g2 o (t.map λx=>Value.int .u8 (x.toNat:Int))=w3 at *
  have bc:(convert 241 9 (.slice (some ⟨g2,0,none⟩) (o+t.length) c2)).run Tryz.prog w3=.ok (.string ⟨(qd (s++List.replicate k 0) o t).toArray⟩) w3 :=
   yl Y.o.row 241 5 9 Tryz.underlying241 Tryz.underlying5 Tryz.underlying9 c2 (o+t.length) (by rw [rq _ _ _ (by omega)]; omega)
  go_wp2_with (at_builtin; refine Lib.wpList_append_run _ rfl (.tmp 23) (.tmp 24) 241 3 rfl _ _ rfl rfl _ _ a7.o ?_);rw [ab.o];go_wp2_with fail;go_ret;rw [HL.o];have h2:=a8.o.to_below g (by have:=O.o.size; have:=A.o.row.lt; omega) (λk hk=>by omega);have h3:=Z.o.to_below g (by have:=h2.size; have:=A.o.row.lt; omega) (λk hk=>by have:=ba.o; have:=A.o.row.lt; omega);rw [al.o];exact ⟨rfl,(O.o.trans h2).trans h3⟩
 ·
  have a1:o+t.length - s.length=0:=by omega
  rw [a1,List.replicate_zero,List.append_nil] at HL;have bp:¬ (0 < (o:Int)+(t.length:Int) - (s.length:Int)):=by omega
  have bb:¬ c=o:=by have:=A.o.le; omega
  have E:=afb (P:=Tryz.prog) 241 9 3 5 Tryz.underlying241 am.o A.o o t (by omega) (by have:=A.o.le; omega) (s.length - o) (c - o) (by omega);obtain ⟨F,I⟩:=A.o.puts t _ o _ (by omega) (by have:=A.o.le; omega);have Y:=zq F;have Z:=zq I;have ab:=zq E;clear F I E J R M U;generalize hw3:w1.setCells g o (t.map λx=>Value.int .u8 (x.toNat:Int))=w3 at *
  have bc:(convert 241 9 (.slice (some ⟨g,0,none⟩) s.length c)).run Tryz.prog w3=.ok (.string ⟨(qd s o t).toArray⟩) w3 :=
   yl Y.o.row 241 5 9 Tryz.underlying241 Tryz.underlying5 Tryz.underlying9 c s.length (by rw [rq _ _ _ (by omega)]; omega)
  have br:o<=s.length:=by omega
  go_wp2_with fail;rw [ab.o];go_wp2_with fail;go_ret;rw [HL.o];have h3:=Z.o.to_below g (by have:=A.o.row.lt; omega) (λk hk=>by omega);rw [al.o];exact ⟨rfl,O.o.trans h3⟩
theorem xy {D:DiskD} {n:List UInt8} (h:D.find n=none):∀ p∈D.files,p.1≠n:=by
 unfold DiskD.find at h;rw [Option.map_eq_none_iff,List.find?_eq_none] at h;intro p hp e;exact h p hp (by simp [e])
theorem nz {D:DiskD} {n:List UInt8} {f:FileD} (h:D.find n=some f):(n,f)∈D.files:=by
 unfold DiskD.find at h
 cases hf:D.files.find? (λp=>p.1 == n) with
 | none=>rw [hf] at h; cases h
 | some p =>
   rw [hf] at h;have h1:=List.mem_of_find?_eq_some hf;have A:=List.find?_some hf;have B:p.2=f:=Option.some.inj h;have E:p.1=n:=by simpa using A
   rw [<- B,<- E]; exact h1
theorem agt {base:Nat} {w:World} {D:DiskD} (h:DiskAt base w D) (n:List UInt8) (hn:D.find n=none) (b:Nat) (hb:w.heap[b]?=some (.cells #[.string (S []),.string (S [])] 312 (0,0))) (hfo:¬ D.foot b) (hba:base<=b) :
 ∃ w',(Instr.mapUpdate 64 (.map (some D.mB)) (.string (S n)) (.pointer (some ⟨b,0,none⟩))).run Tryz.prog w=.ok () w'/\DiskAt base w' { D with files:=D.files++[(n,⟨b,[],[]⟩)] }/\Mod (λk=>k=D.mB) w w':=by
 obtain ⟨es,c,O,R,A⟩:=h.map;have hu:=Tryz.underlying64;have hd:=Tryz.underlying9
 have U:∀ x∈es.toList,IsKey .string x.key:=λx F=>by
  obtain ⟨p,_,hk,_⟩:=yu A F;rw [hk]; trivial
 have hk:IsKey .string (.string (S n)):=trivial
 have X:∀ x∈es.toList,x.key≠.string (S n):=λx F e=>by
  obtain ⟨p,hp,hk,_⟩:=yu A F;rw [hk] at e;exact xy hn p hp (S_inj (by cases e; rfl))
 rcases findNow_spec hk es.toList 0 U with ⟨h1,h2⟩ | ⟨j,e,h1,h2,h3⟩
 ·
  have Y:D.mB < w.heap.size:=(Array.getElem?_eq_some_iff.1 O).1
  have I:(Instr.mapUpdate 64 (.map (some D.mB)) (.string (S n)) (.pointer (some ⟨b,0,none⟩))).run Tryz.prog w=.ok () { w with heap:=w.heap.setIfInBounds D.mB (.map (es.push ⟨.string (S n),.pointer (some ⟨b,0,none⟩),c⟩) (c+1)) }:=by
   simp [Instr.mapUpdate,run_underlying hu,Go.MapKept.run_getObj_map O,Go.MapKept.run_checkKey hd hk,Go.MapKept.run_findKey hd h1,Go.MapKept.run_setObj_map _ O,Result.andThen]
  have J:Mod (λk=>k=D.mB) w { w with heap:=w.heap.setIfInBounds D.mB (.map (es.push ⟨.string (S n),.pointer (some ⟨b,0,none⟩),c⟩) (c+1)) }:=⟨rfl,rfl,rfl,by simp,λk _ hk=>by
   show (w.heap.setIfInBounds D.mB _)[k]?=_;exact Array.getElem?_setIfInBounds_ne (λe=>hk e.symm)⟩
  refine ⟨_,I,?_,J⟩;have key:∀ k,k < w.heap.size->k≠D.mB->(w.heap.setIfInBounds D.mB (Obj.map (es.push ⟨.string (S n),.pointer (some ⟨b,0,none⟩),c⟩) (c+1)))[k]?=w.heap[k]?:=λk _ hk=>Array.getElem?_setIfInBounds_ne (λe=>hk e.symm)
  have M:b < w.heap.size:=(Array.getElem?_eq_some_iff.1 hb).1;have N:b≠D.mB:=λe=>hfo (.inr (.inl e))
  have Z:b≠D.blk:=λe=>hfo (.inl e)
  have ab:∀ p∈D.files,b≠p.2.blk:=λp hp e=>hfo (.inr (.inr (.inl ⟨p,hp,e⟩)))
  have ac:∀ k,D.wv.ownBlock=some k->k≠b:=λk hk e=>hfo (.inr (.inr (.inr (e ▸ hk))))
  refine ⟨?_,⟨es.push ⟨.string (S n),.pointer (some ⟨b,0,none⟩),c⟩,c+1,?_,stamped_push R h2,?_⟩,λp hp=>?_,?_,?_,?_,?_,?_,h.ints,?_,λx F=>by obtain ⟨p,hp,e⟩:=h.waitf x F; exact ⟨p,List.mem_append_left _ hp,e⟩⟩
  . exact (key _ (h.lt (.inl rfl)) h.apart.1).trans h.head
  . show (w.heap.setIfInBounds D.mB _)[D.mB]?=_
    simp [Y]
  . rw [Array.toList_push,List.map_append,A,List.map_append]; rfl
  . rcases List.mem_append.1 hp with hp | hp
    . exact (key _ (h.lt (.inr (.inr (.inl ⟨p,hp,rfl⟩)))) (h.apart.2.1 p hp).2).trans (h.file p hp)
    . rw [List.mem_singleton] at hp; subst hp
      exact (key b M N).trans hb
  ·
   refine ⟨h.row.1,?_⟩
   rcases h.row.2 with h0 | ⟨g,cap,cur,e,hbs,hg,r⟩
   . exact .inl h0
   . have B:D.wv.ownBlock=some g:=by rw [e]; rfl
     exact .inr ⟨g,cap,cur,e,hbs,(key g (h.lt (.inr (.inr (.inr B)))) (h.apart.2.2 g B).2.1).trans hg,r⟩
  ·
   show ((D.files++[(n,(⟨b,[],[]⟩:FileD))]).map (·.1)).Nodup;rw [List.map_append,List.nodup_append];refine ⟨h.names,by simp,λa ha c hc e=>?_⟩;simp only [List.map_cons,List.map_nil,List.mem_singleton] at hc;subst hc; subst e;obtain ⟨p,hp,E⟩:=List.mem_map.1 ha;exact xy hn p hp E
  ·
   show ((D.files++[(n,(⟨b,[],[]⟩:FileD))]).map (·.2.blk)).Nodup;rw [List.map_append,List.nodup_append];refine ⟨h.blocks,by simp,λa ha c hc e=>?_⟩;simp only [List.map_cons,List.map_nil,List.mem_singleton] at hc;subst hc; subst e;obtain ⟨p,hp,E⟩:=List.mem_map.1 ha;exact ab p hp E.symm
  ·
   refine ⟨h.apart.1,λp hp=>?_,λk hk=>⟨(h.apart.2.2 k hk).1,(h.apart.2.2 k hk).2.1,λp hp=>?_⟩⟩
   . rcases List.mem_append.1 hp with hp | hp
     . exact h.apart.2.1 p hp
     . rw [List.mem_singleton] at hp; subst hp; exact ⟨Z,N⟩
   . rcases List.mem_append.1 hp with hp | hp
     . exact (h.apart.2.2 k hk).2.2 p hp
     . rw [List.mem_singleton] at hp; subst hp; exact ac k hk
  . refine ⟨h.above.1,h.above.2.1,λp hp=>?_⟩
    rcases List.mem_append.1 hp with hp | hp
    . exact h.above.2.2 p hp
    . rw [List.mem_singleton] at hp; subst hp; exact hba
  . have:gp (D.files++[(n,(⟨b,[],[]⟩:FileD))])=gp D.files:=by unfold gp; simp
    show ((gp (D.files++[(n,(⟨b,[],[]⟩:FileD))]):Nat):Int)<=D.cap;rw [this]; exact h.fits
 . exact absurd h3 (X e (List.mem_of_getElem? h2))
def DiskD.createE (D:DiskD) (n:List UInt8):Int:=if D.down then 8 else if (D.find n).isSome then 10 else D.done
def DiskD.create (D:DiskD) (n:List UInt8) (b:Nat):DiskD:=if D.down=true\/(D.find n).isSome=true then D else if D.left=0 then D.burn else { D.burn with files:=D.files++[(n,⟨b,[],[]⟩)] }
theorem anq (D:DiskD):D.bars []=if D.down then 8 else 0:=by unfold DiskD.bars; rfl
theorem lm (D:DiskD):D.burn.foot=D.foot/\D.burn.blk=D.blk/\D.burn.mB=D.mB/\D.burn.files=D.files/\D.burn.wv=D.wv/\D.burn.waits=D.waits/\D.burn.cap=D.cap:=by
 unfold DiskD.burn
 split
 . exact ⟨rfl,rfl,rfl,rfl,rfl,rfl,rfl⟩
 . split
   iterate 2
    . exact ⟨rfl,rfl,rfl,rfl,rfl,rfl,rfl⟩
theorem alc (D:DiskD) (n:List UInt8):D.burn.find n=D.find n:=by unfold DiskD.find; rw [(lm D).2.2.2.1]
theorem Mod.below_foot {D:DiskD} {w w':World} (h:Mod (λk=>k=D.blk) w w'):Mod D.foot w w':=h.mono (λk _ hk=>.inl hk)
theorem yw {base:Nat} {D:DiskD} (n:List UInt8) (w:World) (h:DiskAt base w D) (hbase:base<=w.heap.size) :
 Calls Tryz.prog 159 #[.pointer (some ⟨D.blk,0,none⟩),.string (S n)] w λe w'=>∃ b,w.heap.size<=b/\e=.returned (.int .i64 (D.createE n))/\DiskAt base w' (D.create n b)/\Mod D.foot w w':=by
 have M:=zq (bars_any none 0 [] (by simp) w h (λi hi=>absurd hi (Nat.not_lt_zero _)));rw [anq] at M;have I:Zq (D.createE n=if D.down then 8 else if (D.find n).isSome then 10 else D.done):=rfl;have J:Zq (∀ b,D.create n b=if D.down=true\/(D.find n).isSome=true then D else if D.left=0 then D.burn else { D.burn with files:=D.files++[(n,⟨b,[],[]⟩)] }):=λ_=>rfl
 have c2:w.cell? ⟨D.blk,2,none⟩=some (.map (some D.mB)):=h.cell 2 _ rfl;have B:=kr h n;have Y:=zq (abp w h);have HD:=zq h;clear h;go_enter Tryz.func159,Tryz.ntmps159;go_wp2_with fail;refine M.o.mono ?_;rintro e w1 ⟨rfl,rfl⟩;clear M
 cases hdn:D.down with
 | true =>
   rw [hdn] at I J;go_wp2_with fail;go_ret;exact ⟨w1.heap.size,Nat.le_refl _,by rw [I.o]; rfl,by rw [J.o,if_pos (by simp)]; exact HD.o,Mod.refl _ _⟩
 | false =>
   rw [hdn] at I J;clear hdn
   cases N:D.find n with
   | some f =>
     rw [N] at I J B;unfold uk at B;simp only [Option.map_some] at B;clear N;go_wp2_with fail;go_ret;exact ⟨w1.heap.size,Nat.le_refl _,by rw [I.o]; rfl,by rw [J.o,if_pos (by simp)]; exact HD.o,Mod.refl _ _⟩
   | none =>
     have HF:=zq N;rw [N] at I J B;unfold uk at B;simp only [Option.map_none] at B;clear N;go_wp2_with fail;refine Y.o.mono ?_;rintro e w2 ⟨rfl,Z,ab⟩;have E:=zq Z;have F:=zq ab;clear Z ab Y c2 B
     by_cases h0:D.left=0
     . have A:D.done=8:=if_pos h0
       have O:=zq A;rw [A];clear A;go_wp2_with fail;go_ret;exact ⟨w1.heap.size,Nat.le_refl _,by rw [I.o]; simp [O.o],by rw [J.o,if_neg (by simp),if_pos h0]; exact E.o,Mod.below_foot F.o⟩
     ·
      have A:D.done=0:=if_neg h0;have O:=zq A;rw [A];clear A
      have c2:w2.cell? ⟨D.blk,2,none⟩=some (.map (some D.mB)):=by
       have:w2.cell? ⟨D.burn.blk,2,none⟩=some (.map (some D.burn.mB)):=E.o.cell 2 _ rfl;rw [(lm D).2.1,(lm D).2.2.1] at this; exact this
      have R:Below w2.heap.size w2 (w2.alloc (.cells #[.string ⟨#[]⟩,.string ⟨#[]⟩] 312)):=(Below.refl _ _).alloc (Nat.le_refl _) _;have ac:base<=w2.heap.size:=Nat.le_trans hbase F.o.size;obtain ⟨w4,ad,U,X⟩:=agt (E.o.below R) n (by rw [alc]; exact HF.o) w2.heap.size (heap_alloc_new _ _) (λN=>by have:=E.o.lt N; omega) ac;rw [(lm D).2.2.1] at ad X;rw [(lm D).2.2.2.1] at U;have ak:=zq U;have al:Zq (Mod D.foot w1 w4):=((Mod.below_foot F.o).trans (Mod.of_below R)).trans (X.mono (λk _ hk=>.inr (.inl hk)));have am:Zq (w1.heap.size<=w2.heap.size):=F.o.size;clear U X R ac;go_wp2_with fail;go_ret;exact ⟨w2.heap.size,am.o,by rw [I.o]; simp [O.o],by rw [J.o,if_neg (by simp),if_neg h0]; exact ak.o,al.o⟩
def ar9 (f:Option FileD):List UInt8:=match f with | some f=>f.now | none=>[]
def DiskD.bytes (D:DiskD) (n:List UInt8):List UInt8:=ar9 (D.find n)
def DiskD.allT (D:DiskD) (n:List UInt8):List UInt8:=if D.bars [n]=0 then D.bytes n else []
theorem ul (D:DiskD) (n:List UInt8):D.bars [n]=if D.down then 8 else if (D.find n).isSome then 0 else 9:=by unfold DiskD.bars; simp
theorem DiskAt.now {base:Nat} {w:World} {D:DiskD} (h:DiskAt base w D) {n:List UInt8} {f:FileD} (hf:D.find n=some f):w.cell? ⟨f.blk,1,none⟩=some (.string (S f.now)):=by
 have:=h.file _ (nz hf);unfold World.cell?; rw [show w.heap[(⟨f.blk,1,none⟩:Addr).block]?=_ from this]; rfl
theorem row_one (w:World) (n:List UInt8) (ty:TypeId):Row1 (w.alloc (.cells #[.string (S n)] ty)) (some ⟨w.heap.size,0,none⟩) ([n].map λx=>.string (S x)):=by
 intro i A;have:i=0:=by simpa using A
 subst this;exact ⟨_,_,rfl,by rw [World.cell?_alloc_new]; rfl⟩
theorem akc {base:Nat} {D:DiskD} (n:List UInt8) (w:World) (h:DiskAt base w D) :
 Calls Tryz.prog 210 #[.pointer (some ⟨D.blk,0,none⟩),.string (S n)] w λe w'=>e=.returned (.tuple #[.string (S (D.allT n)),.int .i64 (D.bars [n])])/\Below w.heap.size w w':=by
 have I:Zq (Below w.heap.size w (w.alloc (.cells #[.string (S n)] 9))):=(Below.refl _ _).alloc (Nat.le_refl _) _;have hd:=h.below I.o;have B:=zq (bars_any (some ⟨w.heap.size,0,none⟩) 1 [n] (by simp) _ hd (row_one w n _));have E:=kr hd n;have c2:(w.alloc (.cells #[.string (S n)] 9)).cell? ⟨D.blk,2,none⟩=some (.map (some D.mB)):=hd.cell 2 _ rfl;have N:=zq hd;have A:Zq (D.allT n=if D.bars [n]=0 then D.bytes n else []):=rfl;have J:Zq (D.bytes n=ar9 (D.find n)):=rfl;rw [ul] at B A;have F:=zq (ul D n);clear h hd;go_enter Tryz.func210,Tryz.ntmps210;go_wp2_with fail;refine B.o.mono ?_;rintro e w1 ⟨rfl,rfl⟩;clear B
 cases hdn:D.down with
 | true =>
   rw [hdn] at A F;go_wp2_with fail;go_ret2;rw [A.o,F.o];exact ⟨rfl,I.o⟩
 | false =>
   rw [hdn] at A F;clear hdn
   cases hf:D.find n with
   | none =>
     rw [hf] at A F;go_wp2_with fail;go_ret2;rw [A.o,F.o];exact ⟨rfl,I.o⟩
   | some f =>
     have M:=N.o.now hf;rw [hf] at A F E J;unfold uk at E;simp only [Option.map_some] at E;clear hf;go_wp2_with fail;go_ret2;rw [A.o,F.o,J.o];exact ⟨rfl,I.o⟩
def DiskD.readOk (D:DiskD) (nm:List UInt8) (o n:Int):Bool:=decide (0<=o) && decide (0<=n) && decide (o+n<=((D.bytes nm).length:Int))
def DiskD.readE (D:DiskD) (nm:List UInt8) (o n:Int):Int:=if D.bars [nm]=0 then (if D.readOk nm o n then 0 else 2) else D.bars [nm]
def DiskD.readT (D:DiskD) (nm:List UInt8) (o n:Int):List UInt8:=if D.bars [nm]=0/\D.readOk nm o n=true then ((D.bytes nm).drop o.toNat).take n.toNat else []
theorem ald {l:List (List UInt8×FileD)} {p:List UInt8×FileD} (h:p∈l):p.2.now.length<=gp l:=by
 unfold gp
 induction l with
 | nil=>cases h
 | cons x l ih =>
   simp only [List.map_cons,List.sum_cons]
   rcases List.mem_cons.1 h with rfl | h
   . omega
   . have:=ih h; omega
theorem DiskAt.small {base:Nat} {w:World} {D:DiskD} (h:DiskAt base w D) (n:List UInt8):(D.bytes n).length<=16777216:=by
 unfold DiskD.bytes
 cases hf:D.find n with
 | none=>simp [ar9]
 | some f =>
   have h1:=ald (nz hf);have A:=h.fits;have B:=h.ints.2.2.2;have E:D.size=gp D.files:=rfl;show f.now.length<=_;simp only at h1;omega
theorem ale (l:List UInt8) (o n:Nat):(S l).extract o (o+n)=S ((l.drop o).take n):=by
 have h:((S l).extract o (o+n)).data.toList=(l.drop o).take n:=by simp [S,List.extract]
 have e:∀ a:ByteArray,a=S a.data.toList:=λa=>by cases a; simp [S]
 rw [e ((S l).extract o (o+n)),h]
theorem read_any {base:Nat} {D:DiskD} (nm:List UInt8) (o n:Int) (ho : -9223372036854775808<=o/\o<=9223372036854775807) (hn : -9223372036854775808<=n/\n<=9223372036854775807) (w:World) (h:DiskAt base w D) :
 Calls Tryz.prog 136 #[.pointer (some ⟨D.blk,0,none⟩),.string (S nm),.int .i64 o,.int .i64 n] w λe w'=>e=.returned (.tuple #[.string (S (D.readT nm o n)),.int .i64 (D.readE nm o n)])/\Below w.heap.size w w':=by
 have N:=zq (akc nm w h);have B:Zq (D.readE nm o n=if D.bars [nm]=0 then (if D.readOk nm o n then 0 else 2) else D.bars [nm]):=rfl;have E:Zq (D.readT nm o n=if D.bars [nm]=0/\D.readOk nm o n=true then ((D.bytes nm).drop o.toNat).take n.toNat else []):=rfl;have J:Zq (D.readOk nm o n=(decide (0<=o) && decide (0<=n) && decide (o+n<=((D.bytes nm).length:Int)))):=rfl;have F:Zq (D.allT nm=if D.bars [nm]=0 then D.bytes nm else []):=rfl;have O:=h.small nm;have R:=au;have U:=S_toList
 have M:D.bars [nm]=0\/D.bars [nm]=8\/D.bars [nm]=9:=by
  rw [ul]; split
  . exact .inr (.inl rfl)
  . split
    . exact .inl rfl
    . exact .inr (.inr rfl)
 clear h;go_enter Tryz.func136,Tryz.ntmps136;go_wp2_with fail;refine N.o.mono ?_;rintro e w1 ⟨rfl,hb⟩;have I:=zq hb;clear hb N;generalize D.bars [nm]=bz at *
 rcases M with rfl | rfl | rfl
 ·
  rw [if_pos rfl] at F B;rw [F.o];clear F;generalize D.bytes nm=l at *
  generalize D.readOk nm o n=ok at *
  by_cases h1:o < 0
  ·
   have A:ok=false:=by rw [J.o,decide_eq_false (show ¬ 0<=o by omega)]; rfl
   subst A;have d1:decide (o < 0)=true:=decide_eq_true h1;go_wp2_with fail;go_ret2;rw [E.o,B.o];exact ⟨rfl,I.o⟩
  have d1:decide (o < 0)=false:=decide_eq_false h1
  by_cases h2:n < 0
  ·
   have A:ok=false:=by rw [J.o,decide_eq_false (show ¬ 0<=n by omega),Bool.and_false]; rfl
   subst A;have d2:decide (n < 0)=true:=decide_eq_true h2;go_wp2_with fail;go_ret2;rw [E.o,B.o];exact ⟨rfl,I.o⟩
  have d2:decide (n < 0)=false:=decide_eq_false h2
  by_cases h3:(l.length:Int) < o
  ·
   have A:ok=false:=by rw [J.o,decide_eq_false (show ¬ o+n<=(l.length:Int) by omega),Bool.and_false]
   subst A;have d3:decide ((l.length:Int) < o)=true:=decide_eq_true h3;go_wp2_with fail;go_ret2;rw [E.o,B.o];exact ⟨rfl,I.o⟩
  have d3:decide ((l.length:Int) < o)=false:=decide_eq_false h3
  by_cases h4:(l.length:Int) - o < n
  ·
   have A:ok=false:=by rw [J.o,decide_eq_false (show ¬ o+n<=(l.length:Int) by omega),Bool.and_false]
   subst A;have d4:decide ((l.length:Int) - o < n)=true:=decide_eq_true h4;go_wp2_with fail;go_ret2;rw [E.o,B.o];exact ⟨rfl,I.o⟩
  have d4:decide ((l.length:Int) - o < n)=false:=decide_eq_false h4;have A:ok=true:=by rw [J.o,decide_eq_true (show 0<=o by omega),decide_eq_true (show 0<=n by omega),decide_eq_true (show o+n<=(l.length:Int) by omega)]; rfl
  subst A;obtain ⟨o,rfl⟩:=Int.eq_ofNat_of_zero_le (show 0<=o by omega);obtain ⟨n,rfl⟩:=Int.eq_ofNat_of_zero_le (show 0<=n by omega);rw [if_pos ⟨rfl,rfl⟩] at E;go_wp2_with fail;go_ret2;rw [E.o,B.o];refine ⟨?_,I.o⟩;show Ending.returned (.tuple #[.string ((S l).extract o (o+n)),.int .i64 0])=_;rw [ale,Int.toNat_natCast,Int.toNat_natCast]; rfl
 iterate 2
  . go_wp2_with fail
    go_ret2;rw [E.o,B.o];exact ⟨rfl,I.o⟩
end DskW
end Go.Proofs.YtckjigopecocaaaGreatDoor
