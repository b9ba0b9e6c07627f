/- DERIVED: THE SHELF's CONTRACTS AT THIS DUMP, IN PLAIN WORDS (tools/lay-plain.mjs out of 'TryzShelf.lean', which tools/la And what follows. -/
import Derived.Shelf.SlIter.Sorted
import Derived.Ground.GgzProg
import Derived.Shelf.SlIterI.Collect
import Derived.Shelf.SlicesE.DeleteFunc
import Derived.Ground.SlgfProg
import Derived.Shelf.Strings.Builder1
import Derived.Shelf.Strings.Builder2
import Derived.Shelf.Strings.Trim
import Derived.Shelf.Small.Utf8
import Derived.Shelf.Small.Bits
import Derived.Shelf.Small.Strs
import Derived.Shelf.Small.Wraps
import Derived.Shelf.Strings.BuilderF
import Derived.Shelf.Strconv.Atoi
import Derived.Shelf.Strconv.Itoa0
import Derived.Shelf.Strconv.Itoa1
import Derived.Shelf.LaysM
import Derived.Shelf.Strconv.Itoa2
import Derived.Shelf.Strconv.Itoa3
import Derived.Shelf.Strconv.AtoiErrFast
import Derived.Shelf.Strconv.ParseIntEmpty
import Derived.Shelf.Strconv.AtoiFail
import Derived.Shelf.Strconv.Clone
import Derived.Shelf.Strconv.SyntaxError
import Derived.Shelf.LaysC
import Derived.Shelf.Strconv.ToError
import Derived.Shelf.Strconv.Lower
import Derived.Shelf.Strconv.ParseUint10
import Derived.Shelf.Strconv.ParseUint10Empty
import Derived.Shelf.Strconv.ParseUint10Any
import Derived.Shelf.Strconv.ParseInt10
import Derived.Shelf.Strconv.AtoiLong
import Derived.Shelf.Strconv.AtoiInnerAll
import Derived.Shelf.Strconv.RangeError
import Derived.Shelf.Strconv.ToErrorRange
import Derived.Shelf.Strconv.AtoiAll
import Derived.Shelf.Strings.Search1
import Derived.Shelf.Sort.Plain
import Derived.Shelf.GgClosure.StringsIndexFunc
import Derived.Ground.GgwProg
import Derived.Shelf.GgClosure.StringsIndexFuncTop
import Derived.Shelf.GgClosure.StringsRunes
import Derived.Shelf.Strings.Prefix
import Derived.Shelf.Unicode.Decode
import Derived.Shelf.Strings.Runes
import Derived.Shelf.Strings.AsciiSet
import Derived.Shelf.Bits.Mul64
import Derived.Shelf.Strings.Repeat
import Derived.Shelf.Unicode.DecodeSlow
import Derived.Shelf.Unicode.DecodeAny
import Derived.Shelf.Unicode.DecodeLast
import Derived.Shelf.Strings.FuncGrows
import Derived.Shelf.Slices.Turned
import Derived.Shelf.Slices.Equal
import Derived.Ground.Names2Prog
import Derived.Shelf.Slices.Clone
import Derived.Shelf.Slices.CompactS
import Derived.Shelf.Slices.SearchI
import Derived.Shelf.Slices.Cells
import Derived.Shelf.Slices.In.SortNone
import Derived.Shelf.Slices.Empties
import Derived.Shelf.Slices.Empties2
import Derived.Ground.SlgnProg
import Derived.Shelf.SlicesE.Equal
import Derived.Shelf.SlicesE.Compact
import Derived.Shelf.SlicesE.Clone
import Derived.Shelf.SlicesE.IndexFunc
import Derived.Test.YtjjkhbfimpgplaaGreatDoorProg
import Derived.Test.YtjjkhbfimpgplaaGreatDoorR01
import Derived.Test.YtjjkhbfimpgplaaGreatDoorR00
import Derived.Lib.ItoaMem
import Derived.Shelf.Strings.SlTrimAscii
import Derived.Lib.LaidTab
import Derived.Lib.AppendIntMem
import Derived.Laws.OwnMore
import Derived.Laws.AppendOwn
import Derived.MapKept
import Derived.Deep.DeepCutAuto
import Derived.Maps.RangeRun
import Derived.Lib.AppendZerosOnto
import Derived.Lib.LazyBuf
set_option maxHeartbeats 25600000
namespace Go.Proofs
open Go.Shelf
def Tryz.lays169_ren : Go.Shelf.Ren := ⟨fun | 169 => 202 | n => n, fun | 70 => 292 | 9 => 9 | 0 => 0 | 72 => 294 | 37 => 223 | 127 => 342 | 3 => 3 | 5 => 5 | n => n, fun | n => n⟩
theorem Tryz.lays169 : Go.Proofs.Lays.n169 Tryz.prog Tryz.lays169_ren := {
 mixed := by kernel_rfl
 f169 := Tryz.func202.trans (congrArg some (by kernel_rfl))
 t0 := Tryz.underlying0
 a0 := Tryz.isAgg0
 z0 := Tryz.sizeOf0
 v0 := Tryz.zeroValue0
 t3 := Tryz.underlying3
 a3 := Tryz.isAgg3
 z3 := Tryz.sizeOf3
 v3 := Tryz.zeroValue3
 t9 := Tryz.underlying9
 a9 := Tryz.isAgg9
 z9 := Tryz.sizeOf9
 v9 := Tryz.zeroValue9
 t37 := Tryz.underlying223
 a37 := Tryz.isAgg223
 z37 := Tryz.sizeOf223
 v37 := Tryz.zeroValue223
 t70 := Tryz.underlying292
 a70 := Tryz.isAgg292
 z70 := Tryz.sizeOf292
 v70 := Tryz.zeroValue292
 t72 := Tryz.underlying294
 a72 := Tryz.isAgg294
 z72 := Tryz.sizeOf294
 v72 := Tryz.zeroValue294
 t127 := Tryz.underlying342
 a127 := Tryz.isAgg342
 z127 := Tryz.sizeOf342
 v127 := Tryz.zeroValue342 }
theorem Tryz.Builder_Extra_169 : Builder.Extra Tryz.prog Tryz.lays169_ren := {
 sizeBuilder := by kernel_rfl
 liesBuilder := by kernel_rfl
 t5 := Tryz.underlying5
 a5 := Tryz.isAgg5
 z5 := Tryz.sizeOf5
 v5 := Tryz.zeroValue5
 infoByte := by kernel_rfl
 cellsByte := by kernel_rfl
 sizeByte := by kernel_rfl
 neB5 := by decide }
open Go.RowKit in
theorem Tryz.Builder_String_any (B b : Nat) (l : List UInt8) (w : World) (h : Lib.IsBuilder 294 5 B b (Lib.byteCells l) w) (hBw : B ≤ w.heap.size) :
 Calls Tryz.prog 202 #[.pointer (some ⟨b, 0, none⟩)] w fun e w' => e = .returned (.string ⟨l.toArray⟩) ∧ Below B w w' := Any.Builder_String_any Tryz.lays169 Tryz.Builder_Extra_169 B b l w h hBw
def Tryz.lays160_ren : Go.Shelf.Ren := ⟨fun | 160 => 283 | 232 => 293 | 231 => 292 | 227 => 294 | 234 => 296 | 233 => 295 | 236 => 298 | 235 => 297 | 228 => 309 | 271 => 312 | 151 => 311 | 197 => 310 | 120 => 323 | 152 => 322 | 260 => 321 | 137 => 327 | 119 => 328 | 224 => 329 | 225 => 330 | 217 => 333 | 266 => 334 | n => n, fun | 9 => 9 | 4 => 4 | 3 => 3 | 5 => 5 | 117 => 382 | 116 => 381 | 0 => 0 | 124 => 385 | 21 => 21 | 105 => 391 | 46 => 178 | 119 => 408 | 139 => 411 | 138 => 410 | n => n, fun | 3 => 6 | 4 => 7 | n => n⟩
theorem Tryz.lays160 : Go.Proofs.Lays.n160 Tryz.prog Tryz.lays160_ren := {
 mixed := by kernel_rfl
 f119 := Tryz.func328.trans (congrArg some (by kernel_rfl))
 f120 := Tryz.func323.trans (congrArg some (by kernel_rfl))
 f137 := Tryz.func327.trans (congrArg some (by kernel_rfl))
 f151 := Tryz.func311.trans (congrArg some (by kernel_rfl))
 f152 := Tryz.func322.trans (congrArg some (by kernel_rfl))
 f160 := Tryz.func283.trans (congrArg some (by kernel_rfl))
 f197 := Tryz.func310.trans (congrArg some (by kernel_rfl))
 f217 := Tryz.func333.trans (congrArg some (by kernel_rfl))
 f224 := Tryz.func329.trans (congrArg some (by kernel_rfl))
 f225 := Tryz.func330.trans (congrArg some (by kernel_rfl))
 f227 := Tryz.func294.trans (congrArg some (by kernel_rfl))
 f228 := Tryz.func309.trans (congrArg some (by kernel_rfl))
 f231 := Tryz.func292.trans (congrArg some (by kernel_rfl))
 f232 := Tryz.func293.trans (congrArg some (by kernel_rfl))
 f233 := Tryz.func295.trans (congrArg some (by kernel_rfl))
 f234 := Tryz.func296.trans (congrArg some (by kernel_rfl))
 f235 := Tryz.func297.trans (congrArg some (by kernel_rfl))
 f236 := Tryz.func298.trans (congrArg some (by kernel_rfl))
 f260 := Tryz.func321.trans (congrArg some (by kernel_rfl))
 f266 := Tryz.func334.trans (congrArg some (by kernel_rfl))
 f271 := Tryz.func312.trans (congrArg some (by kernel_rfl))
 t0 := Tryz.underlying0
 a0 := Tryz.isAgg0
 z0 := Tryz.sizeOf0
 v0 := Tryz.zeroValue0
 t3 := Tryz.underlying3
 a3 := Tryz.isAgg3
 z3 := Tryz.sizeOf3
 v3 := Tryz.zeroValue3
 t4 := Tryz.underlying4
 a4 := Tryz.isAgg4
 z4 := Tryz.sizeOf4
 v4 := Tryz.zeroValue4
 t5 := Tryz.underlying5
 a5 := Tryz.isAgg5
 z5 := Tryz.sizeOf5
 v5 := Tryz.zeroValue5
 t9 := Tryz.underlying9
 a9 := Tryz.isAgg9
 z9 := Tryz.sizeOf9
 v9 := Tryz.zeroValue9
 t21 := Tryz.underlying21
 a21 := Tryz.isAgg21
 z21 := Tryz.sizeOf21
 v21 := Tryz.zeroValue21
 t46 := Tryz.underlying178
 a46 := Tryz.isAgg178
 z46 := Tryz.sizeOf178
 v46 := Tryz.zeroValue178
 t105 := Tryz.underlying391
 a105 := Tryz.isAgg391
 z105 := Tryz.sizeOf391
 v105 := Tryz.zeroValue391
 t116 := Tryz.underlying381
 a116 := Tryz.isAgg381
 z116 := Tryz.sizeOf381
 t117 := Tryz.underlying382
 a117 := Tryz.isAgg382
 z117 := Tryz.sizeOf382
 v117 := Tryz.zeroValue382
 t119 := Tryz.underlying408
 a119 := Tryz.isAgg408
 z119 := Tryz.sizeOf408
 t124 := Tryz.underlying385
 a124 := Tryz.isAgg385
 z124 := Tryz.sizeOf385
 v124 := Tryz.zeroValue385
 t138 := Tryz.underlying410
 a138 := Tryz.isAgg410
 z138 := Tryz.sizeOf410
 v138 := Tryz.zeroValue410
 t139 := Tryz.underlying411
 a139 := Tryz.isAgg411
 z139 := Tryz.sizeOf411
 v139 := Tryz.zeroValue411
 g3 := by kernel_rfl
 g4 := by kernel_rfl }
def Tryz.lays125_ren : Go.Shelf.Ren := ⟨fun | 125 => 106 | 128 => 173 | 129 => 174 | n => n, fun | 46 => 178 | 3 => 3 | 51 => 249 | 53 => 251 | 4 => 4 | 5 => 5 | 9 => 9 | n => n, fun | n => n⟩
theorem Tryz.lays125 : Go.Proofs.Lays.n125 Tryz.prog Tryz.lays125_ren := {
 mixed := by kernel_rfl
 f125 := Tryz.func106.trans (congrArg some (by kernel_rfl))
 f128 := Tryz.func173.trans (congrArg some (by kernel_rfl))
 f129 := Tryz.func174.trans (congrArg some (by kernel_rfl))
 t3 := Tryz.underlying3
 a3 := Tryz.isAgg3
 z3 := Tryz.sizeOf3
 v3 := Tryz.zeroValue3
 t4 := Tryz.underlying4
 a4 := Tryz.isAgg4
 z4 := Tryz.sizeOf4
 v4 := Tryz.zeroValue4
 t5 := Tryz.underlying5
 a5 := Tryz.isAgg5
 z5 := Tryz.sizeOf5
 v5 := Tryz.zeroValue5
 t9 := Tryz.underlying9
 a9 := Tryz.isAgg9
 z9 := Tryz.sizeOf9
 v9 := Tryz.zeroValue9
 t46 := Tryz.underlying178
 a46 := Tryz.isAgg178
 z46 := Tryz.sizeOf178
 v46 := Tryz.zeroValue178
 t51 := Tryz.underlying249
 a51 := Tryz.isAgg249
 z51 := Tryz.sizeOf249
 v51 := Tryz.zeroValue249
 t53 := Tryz.underlying251
 a53 := Tryz.isAgg251
 z53 := Tryz.sizeOf251
 v53 := Tryz.zeroValue251 }
theorem Tryz.bits_Len (x : Int) (w : World) (h0 : 0 ≤ x) (h1 : x ≤ 18446744073709551615) :
 Calls Tryz.prog 106 #[.int .u64 x] w fun e w' => e = .returned (.int .i64 (Lib.bitLen x.toNat)) ∧ w' = w := Any.bits_Len Tryz.lays125 x w h0 h1
def Tryz.lays103_ren : Go.Shelf.Ren := ⟨fun | 103 => 94 | 210 => 158 | 206 => 223 | n => n, fun | 9 => 9 | 4 => 4 | 24 => 115 | 3 => 3 | n => n, fun | n => n⟩
theorem Tryz.lays103 : Go.Proofs.Lays.n103 Tryz.prog Tryz.lays103_ren := {
 mixed := by kernel_rfl
 f103 := Tryz.func94.trans (congrArg some (by kernel_rfl))
 f206 := Tryz.func223.trans (congrArg some (by kernel_rfl))
 f210 := Tryz.func158.trans (congrArg some (by kernel_rfl))
 t3 := Tryz.underlying3
 a3 := Tryz.isAgg3
 z3 := Tryz.sizeOf3
 v3 := Tryz.zeroValue3
 t4 := Tryz.underlying4
 a4 := Tryz.isAgg4
 z4 := Tryz.sizeOf4
 v4 := Tryz.zeroValue4
 t9 := Tryz.underlying9
 a9 := Tryz.isAgg9
 z9 := Tryz.sizeOf9
 v9 := Tryz.zeroValue9
 t24 := Tryz.underlying115
 a24 := Tryz.isAgg115
 z24 := Tryz.sizeOf115
 v24 := Tryz.zeroValue115 }
open Go.RowKit in
theorem Tryz.strings_CutPrefix (s p : ByteArray) (w : World) :
 Calls Tryz.prog 94 #[.string s, .string p] w fun e w' => e = .returned (.tuple #[.string ⟨(Lib.trimPrefix s.data.toList p.data.toList).toArray⟩, .bool (Lib.hasPrefix s.data.toList p.data.toList)]) ∧ w' = w := Any.strings_CutPrefix Tryz.lays103 s p w
def Tryz.laysM171_ren : Go.Shelf.Ren := ⟨fun | 171 => 203 | 243 => 248 | 246 => 276 | 283 => 287 | 284 => 288 | 285 => 289 | 286 => 290 | 129 => 174 | 317 => 305 | 318 => 306 | 319 => 307 | 320 => 308 | 337 => 319 | 338 => 320 | n => n, fun | 3 => 3 | 9 => 9 | 2 => 2 | 4 => 4 | 171 => 374 | 0 => 0 | 53 => 251 | 37 => 223 | 5 => 5 | 173 => 376 | 212 => 388 | 51 => 249 | 20 => 20 | 213 => 389 | 46 => 178 | 232 => 406 | 233 => 407 | n => n, fun | 17 => 1 | 18 => 4 | 19 => 5 | n => n⟩
theorem Tryz.laysM171 : Go.Proofs.LaysM.n171 Tryz.prog Tryz.laysM171_ren := {
 mixed := by kernel_rfl
 f129 := Tryz.func174.trans (congrArg some (by kernel_rfl))
 f171 := Tryz.func203.trans (congrArg some (by kernel_rfl))
 f243 := Tryz.func248.trans (congrArg some (by kernel_rfl))
 f246 := Tryz.func276.trans (congrArg some (by kernel_rfl))
 f283 := Tryz.func287.trans (congrArg some (by kernel_rfl))
 f284 := Tryz.func288.trans (congrArg some (by kernel_rfl))
 f285 := Tryz.func289.trans (congrArg some (by kernel_rfl))
 f286 := Tryz.func290.trans (congrArg some (by kernel_rfl))
 f317 := Tryz.func305.trans (congrArg some (by kernel_rfl))
 f318 := Tryz.func306.trans (congrArg some (by kernel_rfl))
 f319 := Tryz.func307.trans (congrArg some (by kernel_rfl))
 f320 := Tryz.func308.trans (congrArg some (by kernel_rfl))
 f337 := Tryz.func319.trans (congrArg some (by kernel_rfl))
 f338 := Tryz.func320.trans (congrArg some (by kernel_rfl))
 t0 := Tryz.underlying0
 a0 := Tryz.isAgg0
 z0 := Tryz.sizeOf0
 v0 := Tryz.zeroValue0
 t2 := Tryz.underlying2
 a2 := Tryz.isAgg2
 z2 := Tryz.sizeOf2
 v2 := Tryz.zeroValue2
 t3 := Tryz.underlying3
 a3 := Tryz.isAgg3
 z3 := Tryz.sizeOf3
 v3 := Tryz.zeroValue3
 t4 := Tryz.underlying4
 a4 := Tryz.isAgg4
 z4 := Tryz.sizeOf4
 v4 := Tryz.zeroValue4
 t5 := Tryz.underlying5
 a5 := Tryz.isAgg5
 z5 := Tryz.sizeOf5
 v5 := Tryz.zeroValue5
 t9 := Tryz.underlying9
 a9 := Tryz.isAgg9
 z9 := Tryz.sizeOf9
 v9 := Tryz.zeroValue9
 t20 := Tryz.underlying20
 a20 := Tryz.isAgg20
 z20 := Tryz.sizeOf20
 v20 := Tryz.zeroValue20
 t37 := Tryz.underlying223
 a37 := Tryz.isAgg223
 z37 := Tryz.sizeOf223
 v37 := Tryz.zeroValue223
 t46 := Tryz.underlying178
 a46 := Tryz.isAgg178
 z46 := Tryz.sizeOf178
 v46 := Tryz.zeroValue178
 t51 := Tryz.underlying249
 a51 := Tryz.isAgg249
 z51 := Tryz.sizeOf249
 v51 := Tryz.zeroValue249
 t53 := Tryz.underlying251
 a53 := Tryz.isAgg251
 z53 := Tryz.sizeOf251
 v53 := Tryz.zeroValue251
 t171 := Tryz.underlying374
 a171 := Tryz.isAgg374
 z171 := Tryz.sizeOf374
 v171 := Tryz.zeroValue374
 t173 := Tryz.underlying376
 a173 := Tryz.isAgg376
 z173 := Tryz.sizeOf376
 v173 := Tryz.zeroValue376
 t212 := Tryz.underlying388
 a212 := Tryz.isAgg388
 z212 := Tryz.sizeOf388
 v212 := Tryz.zeroValue388
 t213 := Tryz.underlying389
 a213 := Tryz.isAgg389
 z213 := Tryz.sizeOf389
 t232 := Tryz.underlying406
 a232 := Tryz.isAgg406
 z232 := Tryz.sizeOf406
 v232 := Tryz.zeroValue406
 t233 := Tryz.underlying407
 a233 := Tryz.isAgg407
 z233 := Tryz.sizeOf407
 v233 := Tryz.zeroValue407
 g17 := by kernel_rfl
 g18 := by kernel_rfl
 g19 := by kernel_rfl
 i0 := by kernel_rfl
 i2 := by kernel_rfl
 i3 := by kernel_rfl
 i4 := by kernel_rfl
 i5 := by kernel_rfl
 i9 := by kernel_rfl
 i20 := by kernel_rfl
 i37 := by kernel_rfl
 i46 := by kernel_rfl
 i51 := by kernel_rfl
 i53 := by kernel_rfl
 i171 := by kernel_rfl
 i173 := by kernel_rfl
 i212 := by kernel_rfl
 i232 := by kernel_rfl
 i233 := by kernel_rfl
 m17 := by kernel_rfl
 m18 := by kernel_rfl
 m19 := by kernel_rfl }
open Go.RowKit Go.Sort Go.Lib in
theorem Tryz.strconv_Itoa (n : Int) (h0 : -9223372036854775808 ≤ n) (h1 : n ≤ 9223372036854775807) (w : World) (htab : Lib.TabIs Tryz.prog w "internal/strconv.uint64pow10" .u64 Lib.pow10Tab) :
 Calls Tryz.prog 203 #[.int .i64 n] w fun e w' => e = .returned (.string ⟨(Lib.itoa n).toArray⟩) ∧ ∃ k os, w' = grow (w.drewN k) os := Any.strconv_Itoa Tryz.laysM171 n h0 h1 w htab
def Tryz.laysC172_ren : Go.Shelf.Ren := ⟨fun | 172 => 284 | 244 => 299 | 245 => 300 | 247 => 313 | 279 => 314 | 280 => 315 | 281 => 316 | 282 => 317 | 287 => 324 | 316 => 325 | 171 => 203 | 205 => 326 | 321 => 331 | 322 => 332 | 243 => 248 | 246 => 276 | 283 => 287 | 284 => 288 | 285 => 289 | 286 => 290 | 129 => 174 | 317 => 305 | 318 => 306 | 319 => 307 | 320 => 308 | 337 => 319 | 338 => 320 | n => n, fun | 9 => 9 | 3 => 3 | 75 => 296 | 76 => 297 | 4 => 4 | 5 => 5 | 167 => 394 | 37 => 223 | 0 => 0 | 85 => 395 | 2 => 2 | 168 => 397 | 53 => 251 | 175 => 401 | 46 => 178 | 210 => 404 | 127 => 342 | 145 => 416 | 143 => 414 | 21 => 21 | 171 => 374 | 173 => 376 | 212 => 388 | 51 => 249 | 20 => 20 | 213 => 389 | 232 => 406 | 233 => 407 | 80 => 300 | n => n, fun | 15 => 2 | 16 => 3 | 17 => 1 | 18 => 4 | 19 => 5 | n => n⟩
theorem Tryz.laysC172 : Go.Proofs.LaysC.n172 Tryz.prog Tryz.laysC172_ren := {
 mixed := by kernel_rfl
 f129 := Tryz.func174.trans (congrArg some (by kernel_rfl))
 f171 := Tryz.func203.trans (congrArg some (by kernel_rfl))
 f172 := Tryz.func284.trans (congrArg some (by kernel_rfl))
 f205 := Tryz.func326.trans (congrArg some (by kernel_rfl))
 f243 := Tryz.func248.trans (congrArg some (by kernel_rfl))
 f244 := Tryz.func299.trans (congrArg some (by kernel_rfl))
 f245 := Tryz.func300.trans (congrArg some (by kernel_rfl))
 f246 := Tryz.func276.trans (congrArg some (by kernel_rfl))
 f247 := Tryz.func313.trans (congrArg some (by kernel_rfl))
 f279 := Tryz.func314.trans (congrArg some (by kernel_rfl))
 f280 := Tryz.func315.trans (congrArg some (by kernel_rfl))
 f281 := Tryz.func316.trans (congrArg some (by kernel_rfl))
 f282 := Tryz.func317.trans (congrArg some (by kernel_rfl))
 f283 := Tryz.func287.trans (congrArg some (by kernel_rfl))
 f284 := Tryz.func288.trans (congrArg some (by kernel_rfl))
 f285 := Tryz.func289.trans (congrArg some (by kernel_rfl))
 f286 := Tryz.func290.trans (congrArg some (by kernel_rfl))
 f287 := Tryz.func324.trans (congrArg some (by kernel_rfl))
 f316 := Tryz.func325.trans (congrArg some (by kernel_rfl))
 f317 := Tryz.func305.trans (congrArg some (by kernel_rfl))
 f318 := Tryz.func306.trans (congrArg some (by kernel_rfl))
 f319 := Tryz.func307.trans (congrArg some (by kernel_rfl))
 f320 := Tryz.func308.trans (congrArg some (by kernel_rfl))
 f321 := Tryz.func331.trans (congrArg some (by kernel_rfl))
 f322 := Tryz.func332.trans (congrArg some (by kernel_rfl))
 f337 := Tryz.func319.trans (congrArg some (by kernel_rfl))
 f338 := Tryz.func320.trans (congrArg some (by kernel_rfl))
 t0 := Tryz.underlying0
 a0 := Tryz.isAgg0
 z0 := Tryz.sizeOf0
 v0 := Tryz.zeroValue0
 t2 := Tryz.underlying2
 a2 := Tryz.isAgg2
 z2 := Tryz.sizeOf2
 v2 := Tryz.zeroValue2
 t3 := Tryz.underlying3
 a3 := Tryz.isAgg3
 z3 := Tryz.sizeOf3
 v3 := Tryz.zeroValue3
 t4 := Tryz.underlying4
 a4 := Tryz.isAgg4
 z4 := Tryz.sizeOf4
 v4 := Tryz.zeroValue4
 t5 := Tryz.underlying5
 a5 := Tryz.isAgg5
 z5 := Tryz.sizeOf5
 v5 := Tryz.zeroValue5
 t9 := Tryz.underlying9
 a9 := Tryz.isAgg9
 z9 := Tryz.sizeOf9
 v9 := Tryz.zeroValue9
 t20 := Tryz.underlying20
 a20 := Tryz.isAgg20
 z20 := Tryz.sizeOf20
 v20 := Tryz.zeroValue20
 t21 := Tryz.underlying21
 a21 := Tryz.isAgg21
 z21 := Tryz.sizeOf21
 v21 := Tryz.zeroValue21
 t37 := Tryz.underlying223
 a37 := Tryz.isAgg223
 z37 := Tryz.sizeOf223
 v37 := Tryz.zeroValue223
 t46 := Tryz.underlying178
 a46 := Tryz.isAgg178
 z46 := Tryz.sizeOf178
 v46 := Tryz.zeroValue178
 t51 := Tryz.underlying249
 a51 := Tryz.isAgg249
 z51 := Tryz.sizeOf249
 v51 := Tryz.zeroValue249
 t53 := Tryz.underlying251
 a53 := Tryz.isAgg251
 z53 := Tryz.sizeOf251
 v53 := Tryz.zeroValue251
 t75 := Tryz.underlying296
 a75 := Tryz.isAgg296
 z75 := Tryz.sizeOf296
 v75 := Tryz.zeroValue296
 t76 := Tryz.underlying297
 a76 := Tryz.isAgg297
 z76 := Tryz.sizeOf297
 v76 := Tryz.zeroValue297
 t85 := Tryz.underlying395
 a85 := Tryz.isAgg395
 z85 := Tryz.sizeOf395
 v85 := Tryz.zeroValue395
 t127 := Tryz.underlying342
 a127 := Tryz.isAgg342
 z127 := Tryz.sizeOf342
 v127 := Tryz.zeroValue342
 t143 := Tryz.underlying414
 a143 := Tryz.isAgg414
 z143 := Tryz.sizeOf414
 v143 := Tryz.zeroValue414
 t145 := Tryz.underlying416
 a145 := Tryz.isAgg416
 z145 := Tryz.sizeOf416
 v145 := Tryz.zeroValue416
 t167 := Tryz.underlying394
 a167 := Tryz.isAgg394
 z167 := Tryz.sizeOf394
 v167 := Tryz.zeroValue394
 t168 := Tryz.underlying397
 a168 := Tryz.isAgg397
 z168 := Tryz.sizeOf397
 v168 := Tryz.zeroValue397
 t171 := Tryz.underlying374
 a171 := Tryz.isAgg374
 z171 := Tryz.sizeOf374
 v171 := Tryz.zeroValue374
 t173 := Tryz.underlying376
 a173 := Tryz.isAgg376
 z173 := Tryz.sizeOf376
 v173 := Tryz.zeroValue376
 t175 := Tryz.underlying401
 a175 := Tryz.isAgg401
 z175 := Tryz.sizeOf401
 v175 := Tryz.zeroValue401
 t210 := Tryz.underlying404
 a210 := Tryz.isAgg404
 z210 := Tryz.sizeOf404
 v210 := Tryz.zeroValue404
 t212 := Tryz.underlying388
 a212 := Tryz.isAgg388
 z212 := Tryz.sizeOf388
 v212 := Tryz.zeroValue388
 t213 := Tryz.underlying389
 a213 := Tryz.isAgg389
 z213 := Tryz.sizeOf389
 t232 := Tryz.underlying406
 a232 := Tryz.isAgg406
 z232 := Tryz.sizeOf406
 v232 := Tryz.zeroValue406
 t233 := Tryz.underlying407
 a233 := Tryz.isAgg407
 z233 := Tryz.sizeOf407
 v233 := Tryz.zeroValue407
 g15 := by kernel_rfl
 g16 := by kernel_rfl
 g17 := by kernel_rfl
 g18 := by kernel_rfl
 g19 := by kernel_rfl
 t80 := Tryz.underlying300
 a80 := Tryz.isAgg300
 z80 := Tryz.sizeOf300
 v80 := Tryz.zeroValue300
 i0 := by kernel_rfl
 i2 := by kernel_rfl
 i3 := by kernel_rfl
 i4 := by kernel_rfl
 i5 := by kernel_rfl
 i9 := by kernel_rfl
 i20 := by kernel_rfl
 i21 := by kernel_rfl
 i37 := by kernel_rfl
 i46 := by kernel_rfl
 i51 := by kernel_rfl
 i53 := by kernel_rfl
 i75 := by kernel_rfl
 i76 := by kernel_rfl
 i80 := by kernel_rfl
 i85 := by kernel_rfl
 i127 := by kernel_rfl
 i143 := by kernel_rfl
 i145 := by kernel_rfl
 i167 := by kernel_rfl
 i168 := by kernel_rfl
 i171 := by kernel_rfl
 i173 := by kernel_rfl
 i175 := by kernel_rfl
 i210 := by kernel_rfl
 i212 := by kernel_rfl
 i232 := by kernel_rfl
 i233 := by kernel_rfl
 m15 := by kernel_rfl
 m16 := by kernel_rfl
 m17 := by kernel_rfl
 m18 := by kernel_rfl
 m19 := by kernel_rfl
 c0 := by kernel_rfl
 c2 := by kernel_rfl
 c3 := by kernel_rfl
 c4 := by kernel_rfl
 c5 := by kernel_rfl
 c9 := by kernel_rfl
 c20 := by kernel_rfl
 c21 := by kernel_rfl
 c37 := by kernel_rfl
 c46 := by kernel_rfl
 c51 := by kernel_rfl
 c53 := by kernel_rfl
 c75 := by kernel_rfl
 c76 := by kernel_rfl
 c80 := by kernel_rfl
 c85 := by kernel_rfl
 c127 := by kernel_rfl
 c143 := by kernel_rfl
 c145 := by kernel_rfl
 c167 := by kernel_rfl
 c168 := by kernel_rfl
 c171 := by kernel_rfl
 c173 := by kernel_rfl
 c175 := by kernel_rfl
 c210 := by kernel_rfl
 c212 := by kernel_rfl
 c213 := by kernel_rfl
 c232 := by kernel_rfl
 c233 := by kernel_rfl }
open Go.RowKit in
theorem Tryz.strconv_Atoi_ok (s : ByteArray) (hmax : s.size ≤ 9223372036854775806) (v : Int) (h : Lib.atoiAll s.data.toList = .ok v) (w : World) :
 Calls Tryz.prog 284 #[.string s] w fun e w' => e = .returned (.tuple #[.int .i64 v, .nilIface]) ∧ (w' = w ∨ ∃ t, w' = Lib.bytesWorld w 5 t) := Any.strconv_Atoi_ok Tryz.laysC172 s hmax v h w
def Tryz.lays190_ren : Go.Shelf.Ren := ⟨fun | 190 => 163 | 125 => 106 | 258 => 226 | 128 => 173 | 129 => 174 | 302 => 258 | 303 => 259 | 304 => 260 | 305 => 261 | 306 => 262 | 307 => 263 | 308 => 264 | 309 => 265 | 310 => 266 | 333 => 279 | 329 => 228 | 330 => 229 | 334 => 280 | 335 => 281 | 336 => 282 | 344 => 291 | n => n, fun | 31 => 31 | 9 => 9 | 3 => 3 | 46 => 178 | 0 => 0 | 51 => 249 | 53 => 251 | 4 => 4 | 183 => 243 | 182 => 242 | 131 => 144 | 5 => 5 | 218 => 320 | 222 => 324 | 228 => 356 | 229 => 357 | n => n, fun | n => n⟩
theorem Tryz.lays190 : Go.Proofs.Lays.n190 Tryz.prog Tryz.lays190_ren := {
 mixed := by kernel_rfl
 f125 := Tryz.func106.trans (congrArg some (by kernel_rfl))
 f128 := Tryz.func173.trans (congrArg some (by kernel_rfl))
 f129 := Tryz.func174.trans (congrArg some (by kernel_rfl))
 f190 := Tryz.func163.trans (congrArg some (by kernel_rfl))
 f258 := Tryz.func226.trans (congrArg some (by kernel_rfl))
 f302 := Tryz.func258.trans (congrArg some (by kernel_rfl))
 f303 := Tryz.func259.trans (congrArg some (by kernel_rfl))
 f304 := Tryz.func260.trans (congrArg some (by kernel_rfl))
 f305 := Tryz.func261.trans (congrArg some (by kernel_rfl))
 f306 := Tryz.func262.trans (congrArg some (by kernel_rfl))
 f307 := Tryz.func263.trans (congrArg some (by kernel_rfl))
 f308 := Tryz.func264.trans (congrArg some (by kernel_rfl))
 f309 := Tryz.func265.trans (congrArg some (by kernel_rfl))
 f310 := Tryz.func266.trans (congrArg some (by kernel_rfl))
 f329 := Tryz.func228.trans (congrArg some (by kernel_rfl))
 f330 := Tryz.func229.trans (congrArg some (by kernel_rfl))
 f333 := Tryz.func279.trans (congrArg some (by kernel_rfl))
 f334 := Tryz.func280.trans (congrArg some (by kernel_rfl))
 f335 := Tryz.func281.trans (congrArg some (by kernel_rfl))
 f336 := Tryz.func282.trans (congrArg some (by kernel_rfl))
 f344 := Tryz.func291.trans (congrArg some (by kernel_rfl))
 t0 := Tryz.underlying0
 a0 := Tryz.isAgg0
 z0 := Tryz.sizeOf0
 v0 := Tryz.zeroValue0
 t3 := Tryz.underlying3
 a3 := Tryz.isAgg3
 z3 := Tryz.sizeOf3
 v3 := Tryz.zeroValue3
 t4 := Tryz.underlying4
 a4 := Tryz.isAgg4
 z4 := Tryz.sizeOf4
 v4 := Tryz.zeroValue4
 t5 := Tryz.underlying5
 a5 := Tryz.isAgg5
 z5 := Tryz.sizeOf5
 v5 := Tryz.zeroValue5
 t9 := Tryz.underlying9
 a9 := Tryz.isAgg9
 z9 := Tryz.sizeOf9
 v9 := Tryz.zeroValue9
 t31 := Tryz.underlying31
 a31 := Tryz.isAgg31
 z31 := Tryz.sizeOf31
 v31 := Tryz.zeroValue31
 t46 := Tryz.underlying178
 a46 := Tryz.isAgg178
 z46 := Tryz.sizeOf178
 v46 := Tryz.zeroValue178
 t51 := Tryz.underlying249
 a51 := Tryz.isAgg249
 z51 := Tryz.sizeOf249
 v51 := Tryz.zeroValue249
 t53 := Tryz.underlying251
 a53 := Tryz.isAgg251
 z53 := Tryz.sizeOf251
 v53 := Tryz.zeroValue251
 t131 := Tryz.underlying144
 a131 := Tryz.isAgg144
 z131 := Tryz.sizeOf144
 v131 := Tryz.zeroValue144
 t182 := Tryz.underlying242
 a182 := Tryz.isAgg242
 z182 := Tryz.sizeOf242
 v182 := Tryz.zeroValue242
 t183 := Tryz.underlying243
 a183 := Tryz.isAgg243
 z183 := Tryz.sizeOf243
 v183 := Tryz.zeroValue243
 t218 := Tryz.underlying320
 a218 := Tryz.isAgg320
 z218 := Tryz.sizeOf320
 v218 := Tryz.zeroValue320
 t222 := Tryz.underlying324
 a222 := Tryz.isAgg324
 z222 := Tryz.sizeOf324
 v222 := Tryz.zeroValue324
 t228 := Tryz.underlying356
 a228 := Tryz.isAgg356
 z228 := Tryz.sizeOf356
 v228 := Tryz.zeroValue356
 t229 := Tryz.underlying357
 a229 := Tryz.isAgg357
 z229 := Tryz.sizeOf357
 v229 := Tryz.zeroValue357 }
open Go.Sort Go.RowKit in
theorem Tryz.slices_Sort_string (blk off cap : Nat) (ss : List (List UInt8)) (w : World) (hH : Holds encStr w blk off ss.toArray) (hblk : blk < w.heap.size) (hsz : ss.length < 4611686018427387904) :
 Calls Tryz.prog 163 #[.slice (some ⟨blk, off, none⟩) ss.length cap] w fun e w' =>
  e = .returned (.tuple #[]) ∧ ∃ n os, w' = grow (putRow encStr (Sort.ahead w n) blk off (ss.mergeSort fun x y => decide (x ≤ y)).toArray) os := Any.slices_Sort_string Tryz.lays190 blk off cap ss w hH hblk hsz
def Tryz.laysGw15_ren : Go.Shelf.Ren := ⟨fun | 15 => 159 | 20 => 224 | n => n, fun | 9 => 9 | 23 => 239 | 3 => 3 | 4 => 4 | 0 => 0 | 21 => 21 | n => n, fun | n => n⟩
theorem Tryz.laysGw15 : Go.Proofs.LaysGw.n15 Tryz.prog Tryz.laysGw15_ren := {
 mixed := by kernel_rfl
 f15 := Tryz.func159.trans (congrArg some (by kernel_rfl))
 f20 := Tryz.func224.trans (congrArg some (by kernel_rfl))
 t0 := Tryz.underlying0
 a0 := Tryz.isAgg0
 z0 := Tryz.sizeOf0
 v0 := Tryz.zeroValue0
 i0 := by kernel_rfl
 t3 := Tryz.underlying3
 a3 := Tryz.isAgg3
 z3 := Tryz.sizeOf3
 v3 := Tryz.zeroValue3
 i3 := by kernel_rfl
 t4 := Tryz.underlying4
 a4 := Tryz.isAgg4
 z4 := Tryz.sizeOf4
 v4 := Tryz.zeroValue4
 i4 := by kernel_rfl
 t9 := Tryz.underlying9
 a9 := Tryz.isAgg9
 z9 := Tryz.sizeOf9
 v9 := Tryz.zeroValue9
 i9 := by kernel_rfl
 t21 := Tryz.underlying21
 a21 := Tryz.isAgg21
 z21 := Tryz.sizeOf21
 v21 := Tryz.zeroValue21
 i21 := by kernel_rfl
 t23 := Tryz.underlying239
 a23 := Tryz.isAgg239
 z23 := Tryz.sizeOf239
 v23 := Tryz.zeroValue239
 i23 := by kernel_rfl }
open Go.RowKit Go.Lib in
theorem Tryz.strings_IndexFunc (g : Nat) (lb : Array Value) (eg : ∀ args w, (callFunc g args).run Tryz.prog w = .ok (.enter g args) w) (p : Nat → Bool) (s : ByteArray) (w : World) (hp : PredAt Tryz.prog g lb encR p w) :
 Calls Tryz.prog 159 #[.string s, .func (.func g) #[] lb] w fun e w' => e = .returned (.int .i64 (Lib.idxFunc p true s)) ∧ Below w.heap.size w w' := Any.strings_IndexFunc Tryz.laysGw15 g lb eg p s w hp
def Tryz.lays99_ren : Go.Shelf.Ren := ⟨fun | 99 => 194 | 206 => 223 | n => n, fun | 9 => 9 | 4 => 4 | 3 => 3 | n => n, fun | n => n⟩
theorem Tryz.lays99 : Go.Proofs.Lays.n99 Tryz.prog Tryz.lays99_ren := {
 mixed := by kernel_rfl
 f99 := Tryz.func194.trans (congrArg some (by kernel_rfl))
 f206 := Tryz.func223.trans (congrArg some (by kernel_rfl))
 t3 := Tryz.underlying3
 a3 := Tryz.isAgg3
 z3 := Tryz.sizeOf3
 v3 := Tryz.zeroValue3
 t4 := Tryz.underlying4
 a4 := Tryz.isAgg4
 z4 := Tryz.sizeOf4
 v4 := Tryz.zeroValue4
 t9 := Tryz.underlying9
 a9 := Tryz.isAgg9
 z9 := Tryz.sizeOf9
 v9 := Tryz.zeroValue9 }
open Go.RowKit Go.Lib in
theorem Tryz.strings_HasPrefix (s p : ByteArray) (w : World) :
 Calls Tryz.prog 194 #[.string s, .string p] w fun e w' => e = .returned (.bool (Lib.hasPrefix s.data.toList p.data.toList)) ∧ w' = w := Any.strings_HasPrefix Tryz.lays99 s p w
def Tryz.lays105_ren : Go.Shelf.Ren := ⟨fun | 105 => 140 | 212 => 204 | 99 => 194 | 165 => 205 | 166 => 200 | 170 => 206 | 169 => 202 | 263 => 249 | 264 => 250 | 206 => 223 | 240 => 247 | 241 => 251 | 276 => 275 | 277 => 277 | n => n, fun | 9 => 9 | 3 => 3 | 4 => 4 | 20 => 20 | 0 => 0 | 46 => 178 | 109 => 303 | 5 => 5 | 72 => 294 | 76 => 297 | 51 => 249 | 146 => 343 | 53 => 251 | 148 => 345 | 70 => 292 | 37 => 223 | 75 => 296 | 127 => 342 | 164 => 363 | 80 => 300 | n => n, fun | n => n⟩
theorem Tryz.lays105 : Go.Proofs.Lays.n105 Tryz.prog Tryz.lays105_ren := {
 mixed := by kernel_rfl
 f99 := Tryz.func194.trans (congrArg some (by kernel_rfl))
 f105 := Tryz.func140.trans (congrArg some (by kernel_rfl))
 f165 := Tryz.func205.trans (congrArg some (by kernel_rfl))
 f166 := Tryz.func200.trans (congrArg some (by kernel_rfl))
 f169 := Tryz.func202.trans (congrArg some (by kernel_rfl))
 f170 := Tryz.func206.trans (congrArg some (by kernel_rfl))
 f206 := Tryz.func223.trans (congrArg some (by kernel_rfl))
 f212 := Tryz.func204.trans (congrArg some (by kernel_rfl))
 f240 := Tryz.func247.trans (congrArg some (by kernel_rfl))
 f241 := Tryz.func251.trans (congrArg some (by kernel_rfl))
 f263 := Tryz.func249.trans (congrArg some (by kernel_rfl))
 f264 := Tryz.func250.trans (congrArg some (by kernel_rfl))
 f276 := Tryz.func275.trans (congrArg some (by kernel_rfl))
 f277 := Tryz.func277.trans (congrArg some (by kernel_rfl))
 t0 := Tryz.underlying0
 a0 := Tryz.isAgg0
 z0 := Tryz.sizeOf0
 v0 := Tryz.zeroValue0
 t3 := Tryz.underlying3
 a3 := Tryz.isAgg3
 z3 := Tryz.sizeOf3
 v3 := Tryz.zeroValue3
 t4 := Tryz.underlying4
 a4 := Tryz.isAgg4
 z4 := Tryz.sizeOf4
 v4 := Tryz.zeroValue4
 t5 := Tryz.underlying5
 a5 := Tryz.isAgg5
 z5 := Tryz.sizeOf5
 v5 := Tryz.zeroValue5
 t9 := Tryz.underlying9
 a9 := Tryz.isAgg9
 z9 := Tryz.sizeOf9
 v9 := Tryz.zeroValue9
 t20 := Tryz.underlying20
 a20 := Tryz.isAgg20
 z20 := Tryz.sizeOf20
 v20 := Tryz.zeroValue20
 t37 := Tryz.underlying223
 a37 := Tryz.isAgg223
 z37 := Tryz.sizeOf223
 v37 := Tryz.zeroValue223
 t46 := Tryz.underlying178
 a46 := Tryz.isAgg178
 z46 := Tryz.sizeOf178
 v46 := Tryz.zeroValue178
 t51 := Tryz.underlying249
 a51 := Tryz.isAgg249
 z51 := Tryz.sizeOf249
 v51 := Tryz.zeroValue249
 t53 := Tryz.underlying251
 a53 := Tryz.isAgg251
 z53 := Tryz.sizeOf251
 v53 := Tryz.zeroValue251
 t70 := Tryz.underlying292
 a70 := Tryz.isAgg292
 z70 := Tryz.sizeOf292
 v70 := Tryz.zeroValue292
 t72 := Tryz.underlying294
 a72 := Tryz.isAgg294
 z72 := Tryz.sizeOf294
 v72 := Tryz.zeroValue294
 t75 := Tryz.underlying296
 a75 := Tryz.isAgg296
 z75 := Tryz.sizeOf296
 v75 := Tryz.zeroValue296
 t76 := Tryz.underlying297
 a76 := Tryz.isAgg297
 z76 := Tryz.sizeOf297
 v76 := Tryz.zeroValue297
 t109 := Tryz.underlying303
 a109 := Tryz.isAgg303
 z109 := Tryz.sizeOf303
 v109 := Tryz.zeroValue303
 t127 := Tryz.underlying342
 a127 := Tryz.isAgg342
 z127 := Tryz.sizeOf342
 v127 := Tryz.zeroValue342
 t146 := Tryz.underlying343
 a146 := Tryz.isAgg343
 z146 := Tryz.sizeOf343
 v146 := Tryz.zeroValue343
 t148 := Tryz.underlying345
 a148 := Tryz.isAgg345
 z148 := Tryz.sizeOf345
 v148 := Tryz.zeroValue345
 t164 := Tryz.underlying363
 a164 := Tryz.isAgg363
 z164 := Tryz.sizeOf363
 v164 := Tryz.zeroValue363 }
theorem Tryz.Builder_Extra_105 : Builder.Extra Tryz.prog Tryz.lays105_ren := {
 sizeBuilder := by kernel_rfl
 liesBuilder := by kernel_rfl
 t5 := Tryz.underlying5
 a5 := Tryz.isAgg5
 z5 := Tryz.sizeOf5
 v5 := Tryz.zeroValue5
 infoByte := by kernel_rfl
 cellsByte := by kernel_rfl
 sizeByte := by kernel_rfl
 neB5 := by decide }
open Go.RowKit Go.Lib in
theorem Tryz.strings_Repeat (s : ByteArray) (c : Nat) (w : World) (hc : c ≤ 9223372036854775807) (hlen : s.size * c ≤ 140737488355328) :
 Calls Tryz.prog 140 #[.string s, .int .i64 c] w fun e w' => e = .returned (.string ⟨(Lib.repeatL s.data.toList c).toArray⟩) ∧ Below w.heap.size w w' := Any.strings_Repeat Tryz.lays105 Tryz.Builder_Extra_105 s c w hc hlen
def Tryz.lays193_ren : Go.Shelf.Ren := ⟨fun | 193 => 255 | n => n, fun | 31 => 31 | 9 => 9 | 4 => 4 | 3 => 3 | 0 => 0 | n => n, fun | n => n⟩
theorem Tryz.lays193 : Go.Proofs.Lays.n193 Tryz.prog Tryz.lays193_ren := {
 mixed := by kernel_rfl
 f193 := Tryz.func255.trans (congrArg some (by kernel_rfl))
 t0 := Tryz.underlying0
 a0 := Tryz.isAgg0
 z0 := Tryz.sizeOf0
 v0 := Tryz.zeroValue0
 t3 := Tryz.underlying3
 a3 := Tryz.isAgg3
 z3 := Tryz.sizeOf3
 v3 := Tryz.zeroValue3
 t4 := Tryz.underlying4
 a4 := Tryz.isAgg4
 z4 := Tryz.sizeOf4
 v4 := Tryz.zeroValue4
 t9 := Tryz.underlying9
 a9 := Tryz.isAgg9
 z9 := Tryz.sizeOf9
 v9 := Tryz.zeroValue9
 t31 := Tryz.underlying31
 a31 := Tryz.isAgg31
 z31 := Tryz.sizeOf31
 v31 := Tryz.zeroValue31 }
open Go.RowKit Go.Lib in
theorem Tryz.slices_Equal_string (b1 o1 n c b2 o2 m d : Nat) (xs ys : List ByteArray) (w : World) (hx : n ≤ xs.length) (hy : m ≤ ys.length) (hbig : n ≤ 9223372036854775807) (hbig2 : m ≤ 9223372036854775807) (hc1 : ∀ j, j < xs.length → w.cell? ⟨b1, o1 + j, none⟩ = some (.string (xs.getD j ByteArray.empty))) (hc2 : ∀ j, j < ys.length → w.cell? ⟨b2, o2 + j, none⟩ = some (.string (ys.getD j ByteArray.empty))) :
 Calls Tryz.prog 255 #[.slice (some ⟨b1, o1, none⟩) n c, .slice (some ⟨b2, o2, none⟩) m d] w fun e w' => e = .returned (.bool (decide (xs.take n = ys.take m))) ∧ ∃ q, w' = w.drewN q := Any.slices_Equal_string Tryz.lays193 b1 o1 n c b2 o2 m d xs ys w hx hy hbig hbig2 hc1 hc2
open Go.RowKit Go.Lib in
theorem Tryz.slices_Equal_string_empty (a1 a2 : Option Addr) (c m d : Nat) (w : World) (hbig2 : m ≤ 9223372036854775807) :
 Calls Tryz.prog 255 #[.slice a1 0 c, .slice a2 m d] w fun e w' => e = .returned (.bool (decide (m = 0))) ∧ w' = w := Any.slices_Equal_string_empty Tryz.lays193 a1 a2 c m d w hbig2
def Tryz.laysNm215_ren : Go.Shelf.Ren := ⟨fun | 15 => 32 | n => n, fun | 22 => 35 | 3 => 3 | 4 => 4 | n => n, fun | n => n⟩
theorem Tryz.laysNm215 : Go.Proofs.Lays2.n15 Tryz.prog Tryz.laysNm215_ren := {
 mixed := by kernel_rfl
 f15 := Tryz.func32.trans (congrArg some (by kernel_rfl))
 t3 := Tryz.underlying3
 a3 := Tryz.isAgg3
 z3 := Tryz.sizeOf3
 v3 := Tryz.zeroValue3
 t4 := Tryz.underlying4
 a4 := Tryz.isAgg4
 z4 := Tryz.sizeOf4
 v4 := Tryz.zeroValue4
 t22 := Tryz.underlying35
 a22 := Tryz.isAgg35
 z22 := Tryz.sizeOf35
 v22 := Tryz.zeroValue35
 i3 := by kernel_rfl }
open Go.RowKit Go.Lib in
theorem Tryz.slices_Clone_int (b off n c : Nat) (zs : List Int) (w : World) (hz : n ≤ zs.length) (hbig : n * 8 ≤ 140737488355328) (hc : ∀ j, j < zs.length → w.cell? ⟨b, off + j, none⟩ = some (.int .i64 (zs.getD j 0))) :
 Calls Tryz.prog 32 #[.slice (some ⟨b, off, none⟩) n c] w fun e w' => ∃ v', e = .returned v' ∧ w'.ownsRow w.heap.size 3 1 v' n ((zs.take n).map (Value.int .i64)) ∧ v' ≠ .slice none 0 0 ∧ Below w.heap.size w w' := Any.slices_Clone_int Tryz.laysNm215 b off n c zs w hz hbig hc
open Go.RowKit Go.Lib in
theorem Tryz.slices_Clone_int_nil (n c : Nat) (w : World) :
 Calls Tryz.prog 32 #[.slice none n c] w fun e w' => e = .returned (.slice none 0 0) ∧ w' = w := Any.slices_Clone_int_nil Tryz.laysNm215 n c w
def Tryz.laysNm216_ren : Go.Shelf.Ren := ⟨fun | 16 => 88 | n => n, fun | 24 => 31 | 9 => 9 | 4 => 4 | n => n, fun | n => n⟩
theorem Tryz.laysNm216 : Go.Proofs.Lays2.n16 Tryz.prog Tryz.laysNm216_ren := {
 mixed := by kernel_rfl
 f16 := Tryz.func88.trans (congrArg some (by kernel_rfl))
 t4 := Tryz.underlying4
 a4 := Tryz.isAgg4
 z4 := Tryz.sizeOf4
 v4 := Tryz.zeroValue4
 t9 := Tryz.underlying9
 a9 := Tryz.isAgg9
 z9 := Tryz.sizeOf9
 v9 := Tryz.zeroValue9
 t24 := Tryz.underlying31
 a24 := Tryz.isAgg31
 z24 := Tryz.sizeOf31
 v24 := Tryz.zeroValue31
 i9 := by kernel_rfl }
open Go.RowKit Go.Lib in
theorem Tryz.slices_Clone_string (b off n c : Nat) (zs : List ByteArray) (w : World) (hz : n ≤ zs.length) (hbig : n * 16 ≤ 140737488355328) (hc : ∀ j, j < zs.length → w.cell? ⟨b, off + j, none⟩ = some (.string (zs.getD j ByteArray.empty))) :
 Calls Tryz.prog 88 #[.slice (some ⟨b, off, none⟩) n c] w fun e w' => ∃ v', e = .returned v' ∧ w'.ownsRow w.heap.size 9 1 v' n ((zs.take n).map (Value.string)) ∧ v' ≠ .slice none 0 0 ∧ Below w.heap.size w w' := Any.slices_Clone_string Tryz.laysNm216 b off n c zs w hz hbig hc
open Go.RowKit Go.Lib in
theorem Tryz.slices_Clone_string_nil (n c : Nat) (w : World) :
 Calls Tryz.prog 88 #[.slice none n c] w fun e w' => e = .returned (.slice none 0 0) ∧ w' = w := Any.slices_Clone_string_nil Tryz.laysNm216 n c w
open Go.RowKit Go.Lib in
theorem Tryz.slices_Clone_string_zero (a : Addr) (c : Nat) (w : World) :
 Calls Tryz.prog 88 #[.slice (some a) 0 c] w fun e w' => ∃ v', e = .returned v' ∧ w'.ownsRow w.heap.size 9 1 v' 0 [] ∧ v' ≠ .slice none 0 0 ∧ Below w.heap.size w w' := Any.slices_Clone_string_zero Tryz.laysNm216 a c w
def Tryz.lays194_ren : Go.Shelf.Ren := ⟨fun | 194 => 100 | n => n, fun | 31 => 31 | 9 => 9 | 3 => 3 | 4 => 4 | 0 => 0 | n => n, fun | n => n⟩
theorem Tryz.lays194 : Go.Proofs.Lays.n194 Tryz.prog Tryz.lays194_ren := {
 mixed := by kernel_rfl
 f194 := Tryz.func100.trans (congrArg some (by kernel_rfl))
 t0 := Tryz.underlying0
 a0 := Tryz.isAgg0
 z0 := Tryz.sizeOf0
 v0 := Tryz.zeroValue0
 t3 := Tryz.underlying3
 a3 := Tryz.isAgg3
 z3 := Tryz.sizeOf3
 v3 := Tryz.zeroValue3
 t4 := Tryz.underlying4
 a4 := Tryz.isAgg4
 z4 := Tryz.sizeOf4
 v4 := Tryz.zeroValue4
 t9 := Tryz.underlying9
 a9 := Tryz.isAgg9
 z9 := Tryz.sizeOf9
 v9 := Tryz.zeroValue9
 t31 := Tryz.underlying31
 a31 := Tryz.isAgg31
 z31 := Tryz.sizeOf31
 v31 := Tryz.zeroValue31 }
open Go.RowKit Go.Lib Go.Sort in
theorem Tryz.slices_Compact_string (blk off cap : Nat) (zs : List (List UInt8)) (w : World) (hH : Holds encStr w blk off zs.toArray) (hsz : zs.length ≤ 9223372036854775807) (hcap : zs.length ≤ cap) :
 Calls Tryz.prog 100 #[.slice (some ⟨blk, off, none⟩) zs.length cap] w fun e w' => e = .returned (.slice (some ⟨blk, off, none⟩) (Lib.compact zs).length cap) ∧ ∃ q, w' = putRow encStr (Sort.ahead w q) blk off (Lib.compact zs ++ List.replicate (zs.length - (Lib.compact zs).length) []).toArray := Any.slices_Compact_string Tryz.lays194 blk off cap zs w hH hsz hcap
open Go.RowKit Go.Lib Go.Sort in
theorem Tryz.slices_Compact_string_empty (a : Option Addr) (cap : Nat) (w : World) :
 Calls Tryz.prog 100 #[.slice a 0 cap] w fun e w' => e = .returned (.slice a 0 cap) ∧ w' = w := Any.slices_Compact_string_empty Tryz.lays194 a cap w
def Tryz.laysNm225_ren : Go.Shelf.Ren := ⟨fun | 25 => 71 | 31 => 135 | 32 => 136 | 37 => 107 | n => n, fun | 22 => 35 | 3 => 3 | 4 => 4 | 40 => 178 | 0 => 0 | n => n, fun | n => n⟩
theorem Tryz.laysNm225 : Go.Proofs.Lays2.n25 Tryz.prog Tryz.laysNm225_ren := {
 mixed := by kernel_rfl
 f25 := Tryz.func71.trans (congrArg some (by kernel_rfl))
 f31 := Tryz.func135.trans (congrArg some (by kernel_rfl))
 f32 := Tryz.func136.trans (congrArg some (by kernel_rfl))
 f37 := Tryz.func107.trans (congrArg some (by kernel_rfl))
 t0 := Tryz.underlying0
 a0 := Tryz.isAgg0
 z0 := Tryz.sizeOf0
 v0 := Tryz.zeroValue0
 t3 := Tryz.underlying3
 a3 := Tryz.isAgg3
 z3 := Tryz.sizeOf3
 v3 := Tryz.zeroValue3
 t4 := Tryz.underlying4
 a4 := Tryz.isAgg4
 z4 := Tryz.sizeOf4
 v4 := Tryz.zeroValue4
 t22 := Tryz.underlying35
 a22 := Tryz.isAgg35
 z22 := Tryz.sizeOf35
 v22 := Tryz.zeroValue35
 t40 := Tryz.underlying178
 a40 := Tryz.isAgg178
 z40 := Tryz.sizeOf178
 v40 := Tryz.zeroValue178 }
open Go.RowKit Go.Lib in
theorem Tryz.slices_BinarySearch_int (b off n c : Nat) (zs : List Int) (x : Int) (w : World) (hz : n ≤ zs.length) (hbig : n < 4611686018427387904) (hc : ∀ j, j < zs.length → w.cell? ⟨b, off + j, none⟩ = some (.int .i64 (zs.getD j 0))) (hs : (zs.take n).Pairwise (· ≤ ·)) :
 Calls Tryz.prog 71 #[.slice (some ⟨b, off, none⟩) n c, .int .i64 x] w fun e w' => e = .returned (.tuple #[.int .i64 ((zs.take n).countP (· < x) : Nat), .bool ((zs.take n).contains x)]) ∧ ∃ q, w' = w.drewN q := Any.slices_BinarySearch_int Tryz.laysNm225 b off n c zs x w hz hbig hc hs
open Go.RowKit Go.Sort in
theorem Tryz.slices_Sort_string_none (p : Option Addr) (cap : Nat) (w : World) :
 Calls Tryz.prog 163 #[.slice p 0 cap] w fun e w' => e = .returned (.tuple #[]) ∧ w' = w := Any.slices_Sort_string_none Tryz.lays190 p cap w
open Go.RowKit Go.Lib in
theorem Tryz.slices_BinarySearch_int_empty (a : Option Addr) (c : Nat) (x : Int) (w : World) :
 Calls Tryz.prog 71 #[.slice a 0 c, .int .i64 x] w fun e w' => e = .returned (.tuple #[.int .i64 0, .bool false]) ∧ w' = w := Any.slices_BinarySearch_int_empty Tryz.laysNm225 a c x w
open Go.RowKit Go.Lib in
theorem Tryz.slices_Equal_string_lens (a1 a2 : Option Addr) (n c m d : Nat) (w : World) (hnm : n ≠ m) :
 Calls Tryz.prog 255 #[.slice a1 n c, .slice a2 m d] w fun e w' => e = .returned (.bool false) ∧ w' = w := Any.slices_Equal_string_lens Tryz.lays193 a1 a2 n c m d w hnm
def Tryz.laysSlH8_f252_ren : Go.Shelf.Ren := ⟨fun | 8 => 252 | 6 => 104 | n => n, fun | 22 => 35 | 23 => 3 | 25 => 130 | 4 => 4 | 3 => 3 | 0 => 0 | n => n, fun | n => n⟩
theorem Tryz.laysSlH8_f252 : Go.Proofs.SlLaysH.n8 Tryz.prog Tryz.laysSlH8_f252_ren := {
 mixed := by kernel_rfl
 f6 := ⟨Tryz.f104.name, by decide, Tryz.func104.trans (congrArg some (by kernel_rfl))⟩
 f8 := ⟨Tryz.f252.name, by decide, Tryz.func252.trans (congrArg some (by kernel_rfl))⟩
 t0 := Tryz.underlying0
 a0 := Tryz.isAgg0
 z0 := Tryz.sizeOf0
 v0 := Tryz.zeroValue0
 t3 := Tryz.underlying3
 a3 := Tryz.isAgg3
 z3 := Tryz.sizeOf3
 v3 := Tryz.zeroValue3
 t4 := Tryz.underlying4
 a4 := Tryz.isAgg4
 z4 := Tryz.sizeOf4
 v4 := Tryz.zeroValue4
 t22 := Tryz.underlying35
 a22 := Tryz.isAgg35
 z22 := Tryz.sizeOf35
 v22 := Tryz.zeroValue35
 a23 := Tryz.isAgg3
 z23 := Tryz.sizeOf3
 t25 := Tryz.underlying130
 a25 := Tryz.isAgg130
 z25 := Tryz.sizeOf130
 v25 := Tryz.zeroValue130 }
open Go.RowKit Go.Lib in
theorem Tryz.slices_ContainsFunc {α : Type} [Inhabited α] (enc : α → Value) (p : α → Bool) (g : Nat) (lb : Array Value) (eg : ∀ args w, (callFunc g args).run Tryz.prog w = .ok (.enter g args) w) (b off n c : Nat) (zs : List α) (w : World) (hp : PredAt Tryz.prog g lb enc p w) (hz : n ≤ zs.length) (hbig : n ≤ 9223372036854775807) (hc : ∀ j, j < zs.length → w.cell? ⟨b, off + j, none⟩ = some (enc zs[j]!)) :
 Calls Tryz.prog 252 #[.slice (some ⟨b, off, none⟩) n c, .func (.func g) #[] lb] w fun e w' => e = .returned (.bool ((zs.take n).any p)) ∧ ∃ q, w' = w.drewN q := AnyE.slices_ContainsFunc Tryz.laysSlH8_f252 enc p g lb eg b off n c zs w hp hz hbig hc
def Tryz.sortedZ_ren : Go.Shelf.Ren := ⟨fun | 6 => 98 | 8 => 162 | 9 => 163 | 11 => 225 | 13 => 106 | 12 => 226 | 23 => 173 | 24 => 174 | 14 => 258 | 15 => 259 | 16 => 260 | 17 => 261 | 18 => 262 | 19 => 263 | 20 => 264 | 21 => 265 | 22 => 266 | 25 => 279 | 26 => 228 | 27 => 229 | 28 => 280 | 29 => 281 | 30 => 282 | 31 => 291 | n => n, fun | 26 => 9 | 28 => 171 | 24 => 31 | 0 => 0 | 3 => 3 | 37 => 178 | 48 => 249 | 50 => 251 | 4 => 4 | 40 => 243 | 39 => 242 | 45 => 144 | 5 => 5 | 9 => 9 | 51 => 320 | 55 => 324 | 57 => 356 | 58 => 357 | 33 => 91 | n => n, fun | n => n⟩
theorem Tryz.sortedZ : Go.Proofs.SlLaysZ.n6 Tryz.prog Tryz.sortedZ_ren := {
 mixed := by kernel_rfl
 f6 := ⟨Tryz.f98.name, by decide, Tryz.func98.trans (congrArg some (by kernel_rfl))⟩
 f8 := ⟨Tryz.f162.name, by decide, Tryz.func162.trans (congrArg some (by kernel_rfl))⟩
 f11 := ⟨Tryz.f225.name, by decide, Tryz.func225.trans (congrArg some (by kernel_rfl))⟩
 t0 := Tryz.underlying0
 a0 := Tryz.isAgg0
 z0 := Tryz.sizeOf0
 v0 := Tryz.zeroValue0
 t24 := Tryz.underlying31
 a24 := Tryz.isAgg31
 z24 := Tryz.sizeOf31
 v24 := Tryz.zeroValue31
 t26 := Tryz.underlying9
 a26 := Tryz.isAgg9
 z26 := Tryz.sizeOf9
 v26 := Tryz.zeroValue9
 t28 := Tryz.underlying171
 a28 := Tryz.isAgg171
 z28 := Tryz.sizeOf171
 v28 := Tryz.zeroValue171
 i26 := by kernel_rfl }
def Tryz.delZ_ren : Go.Shelf.Ren := ⟨fun | 10 => 192 | 6 => 242 | n => n, fun | 22 => 31 | 23 => 9 | 25 => 91 | 3 => 3 | 4 => 4 | 0 => 0 | n => n, fun | n => n⟩
theorem Tryz.delZ : Go.Proofs.SlLaysH.n10 Tryz.prog Tryz.delZ_ren := {
 mixed := by kernel_rfl
 f6 := ⟨Tryz.f242.name, by decide, Tryz.func242.trans (congrArg some (by kernel_rfl))⟩
 f10 := ⟨Tryz.f192.name, by decide, Tryz.func192.trans (congrArg some (by kernel_rfl))⟩
 t0 := Tryz.underlying0
 a0 := Tryz.isAgg0
 z0 := Tryz.sizeOf0
 v0 := Tryz.zeroValue0
 t3 := Tryz.underlying3
 a3 := Tryz.isAgg3
 z3 := Tryz.sizeOf3
 v3 := Tryz.zeroValue3
 t4 := Tryz.underlying4
 a4 := Tryz.isAgg4
 z4 := Tryz.sizeOf4
 v4 := Tryz.zeroValue4
 t22 := Tryz.underlying31
 a22 := Tryz.isAgg31
 z22 := Tryz.sizeOf31
 v22 := Tryz.zeroValue31
 a23 := Tryz.isAgg9
 z23 := Tryz.sizeOf9
 t25 := Tryz.underlying91
 a25 := Tryz.isAgg91
 z25 := Tryz.sizeOf91
 v25 := Tryz.zeroValue91 }
def Tryz.keysZ_ren : Go.Shelf.Ren := ⟨fun | 7 => 191 | 10 => 241 | n => n, fun | 23 => 83 | 26 => 9 | 3 => 282 | 28 => 171 | 0 => 0 | 27 => 170 | 33 => 91 | 4 => 4 | n => n, fun | n => n⟩
theorem Tryz.keysZ : Go.Proofs.SlLaysZ.n7 Tryz.prog Tryz.keysZ_ren := {
 mixed := by kernel_rfl
 f7 := ⟨Tryz.f191.name, by decide, Tryz.func191.trans (congrArg some (by kernel_rfl))⟩
 f10 := ⟨Tryz.f241.name, by decide, Tryz.func241.trans (congrArg some (by kernel_rfl))⟩
 t0 := Tryz.underlying0
 a0 := Tryz.isAgg0
 z0 := Tryz.sizeOf0
 v0 := Tryz.zeroValue0
 t4 := Tryz.underlying4
 a4 := Tryz.isAgg4
 z4 := Tryz.sizeOf4
 v4 := Tryz.zeroValue4
 t23 := Tryz.underlying83
 a23 := Tryz.isAgg83
 z23 := Tryz.sizeOf83
 v23 := Tryz.zeroValue83
 t26 := Tryz.underlying9
 a26 := Tryz.isAgg9
 z26 := Tryz.sizeOf9
 v26 := Tryz.zeroValue9
 t27 := Tryz.underlying170
 a27 := Tryz.isAgg170
 z27 := Tryz.sizeOf170
 v27 := Tryz.zeroValue170
 t28 := Tryz.underlying171
 a28 := Tryz.isAgg171
 z28 := Tryz.sizeOf171
 v28 := Tryz.zeroValue171
 t33 := Tryz.underlying91
 a33 := Tryz.isAgg91
 z33 := Tryz.sizeOf91
 v33 := Tryz.zeroValue91 }
def Tryz.keysZ1_ren : Go.Shelf.Ren := ⟨fun | 10 => 241 | n => n, fun | 33 => 91 | 23 => 83 | 0 => 0 | 4 => 4 | 26 => 9 | 3 => 282 | n => n, fun | n => n⟩
theorem Tryz.keysZ1 : Go.Proofs.SlLaysZ.n10 Tryz.prog Tryz.keysZ1_ren := {
 mixed := by kernel_rfl
 f10 := ⟨Tryz.f241.name, by decide, Tryz.func241.trans (congrArg some (by kernel_rfl))⟩
 t0 := Tryz.underlying0
 a0 := Tryz.isAgg0
 z0 := Tryz.sizeOf0
 v0 := Tryz.zeroValue0
 t4 := Tryz.underlying4
 a4 := Tryz.isAgg4
 z4 := Tryz.sizeOf4
 v4 := Tryz.zeroValue4
 t23 := Tryz.underlying83
 a23 := Tryz.isAgg83
 z23 := Tryz.sizeOf83
 v23 := Tryz.zeroValue83
 t26 := Tryz.underlying9
 a26 := Tryz.isAgg9
 z26 := Tryz.sizeOf9
 v26 := Tryz.zeroValue9
 t33 := Tryz.underlying91
 a33 := Tryz.isAgg91
 z33 := Tryz.sizeOf91
 v33 := Tryz.zeroValue91 }
def Tryz.keysP_ren : Go.Shelf.Ren := ⟨fun | 7 => 54 | 10 => 103 | n => n, fun | 23 => 124 | 26 => 3 | 3 => 126 | 28 => 122 | 0 => 0 | 27 => 121 | 33 => 130 | 4 => 4 | n => n, fun | n => n⟩
theorem Tryz.keysP : Go.Proofs.SlLaysZI.n7 Tryz.prog Tryz.keysP_ren := {
 mixed := by kernel_rfl
 f7 := ⟨Tryz.f54.name, by decide, Tryz.func54.trans (congrArg some (by kernel_rfl))⟩
 f10 := ⟨Tryz.f103.name, by decide, Tryz.func103.trans (congrArg some (by kernel_rfl))⟩
 t0 := Tryz.underlying0
 a0 := Tryz.isAgg0
 z0 := Tryz.sizeOf0
 v0 := Tryz.zeroValue0
 t4 := Tryz.underlying4
 a4 := Tryz.isAgg4
 z4 := Tryz.sizeOf4
 v4 := Tryz.zeroValue4
 t23 := Tryz.underlying124
 a23 := Tryz.isAgg124
 z23 := Tryz.sizeOf124
 v23 := Tryz.zeroValue124
 t26 := Tryz.underlying3
 a26 := Tryz.isAgg3
 z26 := Tryz.sizeOf3
 v26 := Tryz.zeroValue3
 t27 := Tryz.underlying121
 a27 := Tryz.isAgg121
 z27 := Tryz.sizeOf121
 v27 := Tryz.zeroValue121
 t28 := Tryz.underlying122
 a28 := Tryz.isAgg122
 z28 := Tryz.sizeOf122
 v28 := Tryz.zeroValue122
 t33 := Tryz.underlying130
 a33 := Tryz.isAgg130
 z33 := Tryz.sizeOf130
 v33 := Tryz.zeroValue130 }
def Tryz.keysP1_ren : Go.Shelf.Ren := ⟨fun | 10 => 103 | n => n, fun | 33 => 130 | 23 => 124 | 0 => 0 | 4 => 4 | 26 => 3 | 3 => 126 | n => n, fun | n => n⟩
theorem Tryz.keysP1 : Go.Proofs.SlLaysZI.n10 Tryz.prog Tryz.keysP1_ren := {
 mixed := by kernel_rfl
 f10 := ⟨Tryz.f103.name, by decide, Tryz.func103.trans (congrArg some (by kernel_rfl))⟩
 t0 := Tryz.underlying0
 a0 := Tryz.isAgg0
 z0 := Tryz.sizeOf0
 v0 := Tryz.zeroValue0
 t4 := Tryz.underlying4
 a4 := Tryz.isAgg4
 z4 := Tryz.sizeOf4
 v4 := Tryz.zeroValue4
 t23 := Tryz.underlying124
 a23 := Tryz.isAgg124
 z23 := Tryz.sizeOf124
 v23 := Tryz.zeroValue124
 t26 := Tryz.underlying3
 a26 := Tryz.isAgg3
 z26 := Tryz.sizeOf3
 v26 := Tryz.zeroValue3
 t33 := Tryz.underlying130
 a33 := Tryz.isAgg130
 z33 := Tryz.sizeOf130
 v33 := Tryz.zeroValue130 }
def Tryz.collP_ren : Go.Shelf.Ren := ⟨fun | 8 => 53 | 11 => 102 | n => n, fun | 26 => 3 | 28 => 122 | 24 => 35 | 0 => 0 | 33 => 130 | 4 => 4 | n => n, fun | n => n⟩
theorem Tryz.collP : Go.Proofs.SlLaysZI.n8 Tryz.prog Tryz.collP_ren := {
 mixed := by kernel_rfl
 f8 := ⟨Tryz.f53.name, by decide, Tryz.func53.trans (congrArg some (by kernel_rfl))⟩
 f11 := ⟨Tryz.f102.name, by decide, Tryz.func102.trans (congrArg some (by kernel_rfl))⟩
 t0 := Tryz.underlying0
 a0 := Tryz.isAgg0
 z0 := Tryz.sizeOf0
 v0 := Tryz.zeroValue0
 t24 := Tryz.underlying35
 a24 := Tryz.isAgg35
 z24 := Tryz.sizeOf35
 v24 := Tryz.zeroValue35
 t26 := Tryz.underlying3
 a26 := Tryz.isAgg3
 z26 := Tryz.sizeOf3
 v26 := Tryz.zeroValue3
 t28 := Tryz.underlying122
 a28 := Tryz.isAgg122
 z28 := Tryz.sizeOf122
 v28 := Tryz.zeroValue122
 i26 := by kernel_rfl }
end Go.Proofs
namespace Go.Proofs.YtjjkhbfimpgplaaGreatDoor.SegW
open Go.RowKit OctMath
set_option linter.unusedVariables false
set_option linter.unusedSimpArgs false
set_option maxRecDepth 100000
def Tab (w : World) : Prop := Lib.TabIs Tryz.prog w "internal/strconv.uint64pow10" .u64 Lib.pow10Tab
theorem Tab.below {W w : World} (h : Tab W) (hb : Below W.heap.size W w) : Tab w := Lib.tabBelow_of_tabIs h w hb
theorem repeat_one (c : UInt8) : ∀ n, Lib.repeatL [c] n = List.replicate n c
 | 0 => rfl
 | n + 1 => by show c :: Lib.repeatL [c] n = _; rw [repeat_one c n]; rfl
theorem itoa_any (n : Nat) (w : World) (ht : Tab w) (hn : n ≤ 9223372036854775807) :
 Calls Tryz.prog 203 #[.int .i64 (n : Int)] w fun e w' => e = .returned (.string (S (Lib.decDigits n))) ∧ Below w.heap.size w w' := by
 refine (Tryz.strconv_Itoa (n : Int) (by omega) (by omega) w ht).mono ?_
 rintro e w' ⟨rfl, k, os, rfl⟩
 rw [Lib.itoa_nonneg]
 exact ⟨rfl, ⟨rfl, rfl, rfl, by simp [Go.Sort.grow, World.drewN], fun j hj => Go.Sort.heap_grow_old _ os hj⟩⟩
theorem repeat_any (c : UInt8) (n : Nat) (w : World) (hn : n ≤ 1073741824) :
 Calls Tryz.prog 140 #[.string (S [c]), .int .i64 (n : Int)] w fun e w' => e = .returned (.string (S (List.replicate n c))) ∧ Below w.heap.size w w' := by
 refine (Tryz.strings_Repeat (S [c]) n w (by omega) (by rw [S_size]; simp; omega)).mono ?_
 rintro e w' ⟨rfl, hb⟩
 rw [S_list, repeat_one]
 exact ⟨rfl, hb⟩
def nameR (hd : List UInt8) (n : Int) : List UInt8 := if 0 ≤ n ∧ n ≤ 99999999 then nameL hd n.toNat else []
theorem Name_any (hd : List UInt8) (n : Int) (w : World) (ht : Tab w) (hn : -9223372036854775808 ≤ n ∧ n ≤ 9223372036854775807) (hh : hd.length ≤ 1073741824) :
 Calls Tryz.prog 138 #[.string (S hd), .int .i64 n] w fun e w' => e = .returned (.tuple #[.string (S (nameR hd n)), .bool (decide (0 ≤ n ∧ n ≤ 99999999))]) ∧ Below w.heap.size w w' := by
 have hsz := S_size
 by_cases h : 0 ≤ n ∧ n ≤ 99999999
 ·
  obtain ⟨u, rfl⟩ : ∃ u : Nat, n = (u : Int) := ⟨n.toNat, by omega⟩
  have hu : u ≤ 99999999 := by omega
  have HR : Hid (nameR hd (u : Int) = hd ++ padL u) := by unfold nameR; rw [if_pos h]; rfl
  rw [decide_eq_true h]
  have hdl := dec_len u hu
  have c1 := Lib.hid (itoa_any u w ht (by omega))
  have HT := Lib.hid ht
  have HP : Hid (padL u = List.replicate (8 - (Lib.decDigits u).length) 48 ++ Lib.decDigits u) := rfl
  clear ht
  generalize Lib.decDigits u = ds at *
  generalize nameR hd (u : Int) = r at *
  go_enter Tryz.func138, Tryz.ntmps138
  go_wp2_with fail
  refine c1.out.mono ?_
  rintro e w2 ⟨rfl, hb⟩
  have HB := Lib.hid hb
  have c2 := Lib.hid (repeat_any 48 (8 - ds.length) w2 (by omega))
  rw [show ((8 - ds.length : Nat) : Int) = 8 - (ds.length : Int) by omega] at c2
  clear hb c1
  go_wp2_with fail
  refine c2.out.mono ?_
  rintro e w3 ⟨rfl, hb⟩
  have HB2 := Lib.hid hb
  clear hb c2
  go_wp2_with fail
  go_ret2
  rw [HR.out, HP.out, S_append, S_append, List.append_assoc]
  exact ⟨rfl, HB.out.trans (HB2.out.mono HB.out.size)⟩
 ·
  have HR : Hid (nameR hd n = []) := by unfold nameR; rw [if_neg h]; rfl
  rw [decide_eq_false h]
  have hor : n < 0 ∨ 99999999 < n := by omega
  clear ht
  generalize nameR hd n = r at *
  rcases hor with h1 | h1
  iterate 2
   · go_enter Tryz.func138, Tryz.ntmps138
     go_wp2_with fail
     go_ret2
     rw [HR.out]
     exact ⟨rfl, Below.refl _ _⟩
theorem trim_any (l : List UInt8) (w : World) (hl : l.length ≤ 1073741824) :
 Calls Tryz.prog 283 #[.string (S l), .string (S digs)] w fun e w' => e = .returned (.string (S (Lib.trimS l digs))) ∧ Below w.heap.size w w' := by
 have h := Any.strings_Trim_laid Tryz.lays160 (by kernel_rfl) (S l) (S digs) w (by rw [S_size]; omega) (by rw [S_size]; decide) (ascii_of_all (by rw [S_list]; decide))
 rw [S_list, S_list] at h
 exact h
theorem cutPrefix_any (l p : List UInt8) (w : World) :
 Calls Tryz.prog 94 #[.string (S l), .string (S p)] w fun e w' => e = .returned (.tuple #[.string (S (Lib.trimPrefix l p)), .bool (Lib.hasPrefix l p)]) ∧ w' = w := by
 have h := Tryz.strings_CutPrefix (S l) (S p) w
 rw [S_list, S_list] at h
 exact h
theorem atoi_any (l : List UInt8) (h0 : l ≠ []) (h8 : l.length ≤ 8) (h : ∀ c ∈ l, dig c = true) (w : World) :
 Calls Tryz.prog 284 #[.string (S l)] w fun e w' => e = .returned (.tuple #[.int .i64 (numL l : Int), .nilIface]) ∧ Below w.heap.size w w' := by
 refine (Tryz.strconv_Atoi_ok (S l) (by rw [S_size]; omega) (numL l) (by rw [S_list]; exact atoi_num l h0 h8 h) w).mono ?_
 rintro e w' ⟨rfl, hw⟩
 refine ⟨rfl, ?_⟩
 rcases hw with rfl | ⟨t, rfl⟩
 · exact Below.refl _ _
 · exact Lib.bytesWorld_below _ _ _
def optN : Option Nat → Int
 | some n => (n : Int)
 | none => 0
theorem Place_any (hd nm : List UInt8) (w : World) (hn : nm.length ≤ 1073741824) :
 Calls Tryz.prog 268 #[.string (S hd), .string (S nm)] w fun e w' => e = .returned (.tuple #[.int .i64 (optN (placeL hd nm)), .bool (placeL hd nm).isSome]) ∧ Below w.heap.size w w' := by
 have hsz := S_size
 have c1 := Lib.hid (cutPrefix_any nm hd w)
 obtain ⟨r, HR⟩ : ∃ r, Hid (r = placeL hd nm) := ⟨_, rfl⟩
 rw [← HR.out]
 by_cases h1 : Lib.hasPrefix nm hd = true
 ·
  have ht : Lib.trimPrefix nm hd = nm.drop hd.length := by unfold Lib.trimPrefix; rw [if_pos h1]
  rw [h1, ht] at c1
  have HX : Hid (placeL hd nm = if (nm.drop hd.length).length = 8 ∧ ∀ c ∈ nm.drop hd.length, dig c = true then some (numL (nm.drop hd.length)) else none) := by
   show _ = _
   unfold placeL
   simp only [h1, true_and]
  have hl : (nm.drop hd.length).length ≤ 1073741824 := by rw [List.length_drop]; omega
  rw [← HR.out] at HX
  clear h1 ht HR hn
  generalize nm.drop hd.length = d at *
  by_cases h8 : d.length = 8
  ·
   have c2 := Lib.hid (trim_any d w hl)
   by_cases hdg : ∀ c ∈ d, dig c = true
   ·
    rw [(trim_digs d).2 hdg] at c2
    have hrx : r = some (numL d) := by rw [HX.out, if_pos ⟨h8, hdg⟩]
    subst hrx
    have hdn : d ≠ [] := by intro e; rw [e] at h8; cases h8
    have HAT : Hid (∀ W : World, Calls Tryz.prog 284 #[.string (S d)] W fun e w' => e = .returned (.tuple #[.int .i64 (numL d : Int), .nilIface]) ∧ Below W.heap.size W w') := fun W => atoi_any d hdn (by omega) hdg W
    clear hdg HX hdn
    have hem : (S []).toList.isEmpty = true := by rw [ByteArray.toList_eq, S_list]; rfl
    show Calls _ _ _ _ fun e w' => e = .returned (.tuple #[.int .i64 (numL d : Int), .bool true]) ∧ _
    generalize numL d = n at *
    go_enter Tryz.func268, Tryz.ntmps268
    go_wp2_with fail
    refine c1.out.mono ?_
    rintro e w' ⟨rfl, rfl⟩
    go_wp2_with fail
    refine c2.out.mono ?_
    rintro e w3 ⟨rfl, hb⟩
    have HB := Lib.hid hb
    clear hb c2 c1
    go_wp2_with fail
    refine (HAT.out w3).mono ?_
    rintro e w4 ⟨rfl, hb⟩
    have HB2 := Lib.hid hb
    clear hb HAT
    go_wp2_with fail
    go_ret2
    exact ⟨rfl, HB.out.trans (HB2.out.mono HB.out.size)⟩
   ·
    have hrx : r = none := by rw [HX.out, if_neg (fun h => hdg h.2)]
    subst hrx
    have htn : (Lib.trimS d digs).length ≠ 0 := by intro e; exact hdg ((trim_digs d).1 (List.length_eq_zero_iff.1 e))
    have hem : (S (Lib.trimS d digs)).toList.isEmpty = false := by
     rw [ByteArray.toList_eq, S_list]
     cases hh : Lib.trimS d digs with
     | nil => rw [hh] at htn; exact absurd rfl htn
     | cons _ _ => rfl
    clear hdg HX
    show Calls _ _ _ _ fun e w' => e = .returned (.tuple #[.int .i64 0, .bool false]) ∧ _
    generalize Lib.trimS d digs = y at *
    go_enter Tryz.func268, Tryz.ntmps268
    go_wp2_with fail
    refine c1.out.mono ?_
    rintro e w' ⟨rfl, rfl⟩
    go_wp2_with fail
    refine c2.out.mono ?_
    rintro e w3 ⟨rfl, hb⟩
    have HB := Lib.hid hb
    clear hb c2 c1
    go_wp2_with fail
    go_ret2
    exact ⟨rfl, HB.out⟩
  ·
   have hrx : r = none := by rw [HX.out, if_neg (fun h => h8 h.1)]
   subst hrx
   clear HX
   show Calls _ _ _ _ fun e w' => e = .returned (.tuple #[.int .i64 0, .bool false]) ∧ _
   have h8i : ¬ (d.length : Int) = 8 := by omega
   go_enter Tryz.func268, Tryz.ntmps268
   go_wp2_with fail
   refine c1.out.mono ?_
   rintro e w' ⟨rfl, rfl⟩
   go_wp2_with fail
   go_ret2
   exact ⟨rfl, Below.refl _ _⟩
 ·
  rw [Bool.not_eq_true] at h1
  have hrx : r = none := by rw [HR.out]; unfold placeL; rw [if_neg (fun h => by rw [h1] at h; cases h.1)]
  subst hrx
  rw [h1] at c1
  clear h1 HR
  show Calls _ _ _ _ fun e w' => e = .returned (.tuple #[.int .i64 0, .bool false]) ∧ _
  generalize Lib.trimPrefix nm hd = y at *
  go_enter Tryz.func268, Tryz.ntmps268
  go_wp2_with fail
  refine c1.out.mono ?_
  rintro e w' ⟨rfl, rfl⟩
  go_wp2_with fail
  go_ret2
  exact ⟨rfl, Below.refl _ _⟩
end Go.Proofs.YtjjkhbfimpgplaaGreatDoor.SegW
namespace Go.Proofs.YtjjkhbfimpgplaaGreatDoor
open Go.RowKit
set_option linter.unusedSimpArgs false
set_option linter.unusedVariables false
def Row1 (w : World) (a : Option Addr) (vs : List Value) : Prop := ∀ i (h : i < vs.length), ∃ b off, a = some ⟨b, off, none⟩ ∧ w.cell? ⟨b, off + i, none⟩ = some vs[i]
theorem Row1.below {W w : World} {a : Option Addr} {vs : List Value} (h : Row1 W a vs) (hb : Below W.heap.size W w) : Row1 w a vs := by
 intro i hi
 obtain ⟨b, off, rfl, hc⟩ := h i hi
 exact ⟨b, off, rfl, by rw [hb.cell (cell_lt hc)]; exact hc⟩
theorem Row1.mod {M : Nat → Prop} {W w : World} {a : Option Addr} {vs : List Value} (h : Row1 W a vs) (hb : Mod M W w) (hM : ∀ ad, a = some ad → ¬ M ad.block) : Row1 w a vs := by
 intro i hi
 obtain ⟨b, off, rfl, hc⟩ := h i hi
 exact ⟨b, off, rfl, by rw [hb.cell (p := ⟨b, off + i, none⟩) (cell_lt hc) (show ¬ M b from hM ⟨b, off, none⟩ rfl)]; exact hc⟩
theorem Row1.of_strs {w : World} {a : Option Addr} {ss : List ByteArray} (h : Strs w a ss) : Row1 w a (ss.map .string) := by
 intro i hi
 obtain ⟨b, off, rfl, hc⟩ := h i (by simpa using hi)
 exact ⟨b, off, rfl, by rw [hc, List.getElem_map]⟩
theorem Row1.to_strs {w : World} {a : Option Addr} {ss : List ByteArray} (h : Row1 w a (ss.map .string)) : Strs w a ss := by
 intro i hi
 obtain ⟨b, off, rfl, hc⟩ := h i (by simpa using hi)
 exact ⟨b, off, rfl, by rw [hc, List.getElem_map]⟩
theorem Row1.of_own {w : World} {base n : Nat} {e : TypeId} {v : Value} {xs : List Value} (h : w.ownsRow base e 1 v n xs) : ∃ a cap, v = .slice a n cap ∧ Row1 w a xs ∧ xs.length = n := by
 obtain ⟨hl, h⟩ := h
 rcases h with ⟨rfl, h0⟩ | ⟨g, cap, cur, rfl, hb, hg, hc1, hc2, hcs, hcur⟩
 · exact ⟨none, 0, by rw [h0], fun i hi => by omega, by omega⟩
 ·
  refine ⟨some ⟨g, 0, none⟩, cap, rfl, fun i hi => ⟨g, 0, rfl, ?_⟩, by omega⟩
  unfold World.cell?
  rw [hg]
  have : cur[0 + i]? = (cur.toList.take (n * 1))[i]? := by
   rw [List.getElem?_take, if_pos (by omega)]; simp
  simp only [this, hcur]
  simp [hi]
section
variable {P : Program} {w : World}
end
theorem ownBlock_of_own {w : World} {base n : Nat} {e : TypeId} {sz : Nat} {v : Value} {xs : List Value} (h : w.ownsRow base e sz v n xs) : ∀ g, v.ownBlock = some g → base ≤ g := by
 intro g hg
 rcases h.2 with ⟨rfl, _⟩ | ⟨g', cap, cur, rfl, hb, _⟩
 · cases hg
 · cases hg; exact hb
end Go.Proofs.YtjjkhbfimpgplaaGreatDoor
namespace Go.Proofs.YtjjkhbfimpgplaaGreatDoor.DskW
open Go.RowKit Go.MapKept OctMath
set_option linter.unusedVariables false
set_option linter.unusedSimpArgs false
structure FileD where
 blk : Nat
 img : List UInt8
 now : List UInt8
structure WriteD where
 blk : Nat
 pos : Nat
 txt : List UInt8
def WriteD.cells (x : WriteD) : List Value := [.pointer (some ⟨x.blk, 0, none⟩), .int .i64 (x.pos : Int), .string (S x.txt)]
def waitsL (l : List WriteD) : List Value := l.flatMap WriteD.cells
theorem waitsL_length (l : List WriteD) : (waitsL l).length = l.length * 3 := by
 induction l with
 | nil => rfl
 | cons x l ih =>
   show (x.cells ++ waitsL l).length = _
   rw [List.length_append, ih, List.length_cons]; show 3 + _ = _; omega
structure DiskD where
 blk : Nat
 left : Int
 down : Bool
 mB : Nat
 files : List (List UInt8 × FileD)
 wv : Value
 waits : List WriteD
 cap : Int
def DiskD.foot (D : DiskD) (k : Nat) : Prop := k = D.blk ∨ k = D.mB ∨ (∃ p ∈ D.files, k = p.2.blk) ∨ D.wv.ownBlock = some k
def DiskD.head (D : DiskD) : Array Value := #[.int .i64 D.left, .bool D.down, .map (some D.mB), D.wv, .int .i64 D.cap]
def FileD.cells (f : FileD) : Array Value := #[.string (S f.img), .string (S f.now)]
def sizeL (l : List (List UInt8 × FileD)) : Nat := (l.map fun p => p.2.now.length).sum
def DiskD.size (D : DiskD) : Nat := sizeL D.files
structure DiskAt (base : Nat) (w : World) (D : DiskD) : Prop where
 head : w.heap[D.blk]? = some (.cells D.head 86 (0, 0))
 map : ∃ es c, w.heap[D.mB]? = some (.map es c) ∧ Stamped es c ∧ es.toList.map (fun e => (e.key, e.val)) = D.files.map (fun p => (.string (S p.1), .pointer (some ⟨p.2.blk, 0, none⟩)))
 file : ∀ p ∈ D.files, w.heap[p.2.blk]? = some (.cells p.2.cells 302 (0, 0))
 row : w.ownsRow base 332 3 D.wv D.waits.length (waitsL D.waits)
 names : (D.files.map (·.1)).Nodup
 blocks : (D.files.map (·.2.blk)).Nodup
 apart : D.blk ≠ D.mB ∧ (∀ p ∈ D.files, p.2.blk ≠ D.blk ∧ p.2.blk ≠ D.mB) ∧ ∀ k, D.wv.ownBlock = some k → k ≠ D.blk ∧ k ≠ D.mB ∧ ∀ p ∈ D.files, k ≠ p.2.blk
 above : base ≤ D.blk ∧ base ≤ D.mB ∧ ∀ p ∈ D.files, base ≤ p.2.blk
 ints : -1 ≤ D.left ∧ D.left ≤ 9223372036854775807 ∧ 0 ≤ D.cap ∧ D.cap ≤ 16777216
 fits : (D.size : Int) ≤ D.cap
 waitf : ∀ x ∈ D.waits, ∃ p ∈ D.files, p.2.blk = x.blk
theorem DiskAt.lt {base : Nat} {w : World} {D : DiskD} (h : DiskAt base w D) {k : Nat} (hk : D.foot k) : k < w.heap.size := by
 rcases hk with rfl | rfl | ⟨p, hp, rfl⟩ | hk
 · exact (Array.getElem?_eq_some_iff.1 h.head).1
 · obtain ⟨es, c, h1, _⟩ := h.map; exact (Array.getElem?_eq_some_iff.1 h1).1
 · exact (Array.getElem?_eq_some_iff.1 (h.file p hp)).1
 · rcases h.row.2 with ⟨e, _⟩ | ⟨g, cap, cur, e, _, hg, _⟩
   · rw [e] at hk; cases hk
   · rw [e] at hk; cases hk; exact (Array.getElem?_eq_some_iff.1 hg).1
theorem DiskAt.base_le {base : Nat} {w : World} {D : DiskD} (h : DiskAt base w D) {k : Nat} (hk : D.foot k) : base ≤ k := by
 rcases hk with rfl | rfl | ⟨p, hp, rfl⟩ | hk
 · exact h.above.1
 · exact h.above.2.1
 · exact h.above.2.2 p hp
 · exact ownBlock_of_own h.row k hk
theorem DiskAt.mod {base : Nat} {w w' : World} {D : DiskD} {M : Nat → Prop} (h : DiskAt base w D) (hm : Mod M w w') (hM : ∀ k, D.foot k → ¬ M k) : DiskAt base w' D := by
 have key : ∀ k, D.foot k → w'.heap[k]? = w.heap[k]? := fun k hk => hm.block k (h.lt hk) (hM k hk)
 obtain ⟨es, c, m1, m2, m3⟩ := h.map
 refine ⟨(key _ (.inl rfl)).trans h.head, ⟨es, c, (key _ (.inr (.inl rfl))).trans m1, m2, m3⟩, fun p hp => (key _ (.inr (.inr (.inl ⟨p, hp, rfl⟩)))).trans (h.file p hp), ?_, h.names, h.blocks, h.apart, h.above, h.ints, h.fits, h.waitf⟩
 refine ⟨h.row.1, ?_⟩
 rcases h.row.2 with h0 | ⟨g, cap, cur, e, hb, hg, r⟩
 · exact .inl h0
 · exact .inr ⟨g, cap, cur, e, hb, (key g (.inr (.inr (.inr (by rw [e]; rfl))))).trans hg, r⟩
theorem DiskAt.below {base : Nat} {w w' : World} {D : DiskD} (h : DiskAt base w D) (hb : Below w.heap.size w w') : DiskAt base w' D :=
 h.mod (M := fun _ => False) (Mod.of_below hb) (fun _ _ h => h)
/-! what the calls make of it -/
def DiskD.find (D : DiskD) (n : List UInt8) : Option FileD := (D.files.find? fun p => p.1 == n).map (·.2)
def DiskD.burn (D : DiskD) : DiskD := if D.left = 0 then { D with left := -1, down := true } else if 0 < D.left then { D with left := D.left - 1 } else D
def DiskD.bars (D : DiskD) (ns : List (List UInt8)) : Int := if D.down then 8 else if ns.all fun n => (D.find n).isSome then 0 else 9
end Go.Proofs.YtjjkhbfimpgplaaGreatDoor.DskW
namespace Go.Proofs.YtjjkhbfimpgplaaGreatDoor.DskW
open Go.RowKit Go.MapKept OctMath
set_option linter.unusedVariables false
set_option linter.unusedSimpArgs false
set_option maxRecDepth 100000
theorem S_inj {a b : List UInt8} (h : S a = S b) : a = b := by
 have := congrArg (fun x : ByteArray => x.data.toList) h
 simpa [S] using this
def fileV (f : Option FileD) : Value := .pointer (f.map fun f => ⟨f.blk, 0, none⟩)
theorem run_zero {P : Program} {t : TypeId} {i : TypeInfo} {z : Value} {w : World} (hi : P.info? t = some i) (hz : i.zero = some z) : (zeroValue t).run P w = .ok z w := by
 simp [zeroValue, typeInfo, hi, hz]
theorem lookup_file {base : Nat} {w : World} {D : DiskD} (h : DiskAt base w D) (n : List UInt8) :
 (Instr.lookup 83 (.map (some D.mB)) (.string (S n)) false).run Tryz.prog w = .ok (fileV (D.find n)) w := by
 obtain ⟨es, c, hb, hst, hmap⟩ := h.map
 have hm := Tryz.underlying83
 have hd := Tryz.underlying9
 have hks : ∀ x ∈ es.toList, IsKey .string x.key := fun x hx => by
  have : (x.key, x.val) ∈ D.files.map (fun p => (Value.string (S p.1), Value.pointer (some ⟨p.2.blk, 0, none⟩))) := by rw [← hmap]; exact List.mem_map.2 ⟨x, hx, rfl⟩
  obtain ⟨p, _, hp⟩ := List.mem_map.1 this
  have : x.key = .string (S p.1) := (Prod.mk.inj hp).1.symm
  rw [this]; trivial
 have hk : IsKey .string (.string (S n)) := trivial
 obtain ⟨i0, hi0, hz0⟩ : ∃ i, Tryz.prog.info? 282 = some i ∧ i.zero = some (.pointer none) := by
  have := (show (Tryz.prog.info? 282).map (fun i => i.zero) = some (some (.pointer none)) by kernel_rfl)
  cases hh : Tryz.prog.info? 282 with
  | none => rw [hh] at this; cases this
  | some i => rw [hh] at this; exact ⟨i, rfl, Option.some.inj this⟩
 have hzr := run_zero (w := w) hi0 hz0
 have hfind : ∀ (l : List (List UInt8 × FileD)) (el : List MapEntry), el.map (fun e : MapEntry => (e.key, e.val)) = l.map (fun p => (Value.string (S p.1), Value.pointer (some ⟨p.2.blk, 0, none⟩))) →
  ((∀ x ∈ el, x.key ≠ .string (S n)) → l.find? (fun p => p.1 == n) = none) ∧
  ∀ (j : Nat) (e : MapEntry), el[j]? = some e → e.key = .string (S n) → (l.map (·.1)).Nodup → ∃ p, l.find? (fun p => p.1 == n) = some p ∧ e.val = .pointer (some ⟨p.2.blk, 0, none⟩) := by
  intro l
  induction l with
  | nil => intro el hel; cases el with
    | nil => exact ⟨fun _ => rfl, fun j e he => by cases he⟩
    | cons x el => cases hel
  | cons p l ih =>
    intro el hel
    cases el with
    | nil => cases hel
    | cons x el =>
      simp only [List.map_cons, List.cons.injEq, Prod.mk.injEq] at hel
      obtain ⟨⟨hx1, hx2⟩, hel⟩ := hel
      obtain ⟨ih1, ih2⟩ := ih el hel
      constructor
      · intro hn
        have h1 : (p.1 == n) = false := by
         rw [beq_eq_false_iff_ne]; intro e; exact hn x (.head _) (by rw [hx1, e])
        rw [List.find?_cons, h1]
        exact ih1 fun y hy => hn y (.tail _ hy)
      ·
       intro j e he hek hnd
       simp only [List.map_cons, List.nodup_cons] at hnd
       cases j with
       | zero =>
         simp only [List.getElem?_cons_zero, Option.some.injEq] at he
         subst he
         have : p.1 = n := S_inj (by rw [hx1] at hek; cases hek; rfl)
         refine ⟨p, by rw [List.find?_cons, show (p.1 == n) = true from by simp [this]], hx2⟩
       | succ j =>
         simp only [List.getElem?_cons_succ] at he
         have hmem : n ∈ l.map (·.1) := by
          have : (e.key, e.val) ∈ l.map (fun p => (Value.string (S p.1), Value.pointer (some ⟨p.2.blk, 0, none⟩))) := by rw [← hel]; exact List.mem_map.2 ⟨e, List.mem_of_getElem? he, rfl⟩
          obtain ⟨q, hq, hqe⟩ := List.mem_map.1 this
          have h2 := (Prod.mk.inj hqe).1
          rw [hek] at h2
          have : q.1 = n := S_inj (by cases h2; rfl)
          exact List.mem_map.2 ⟨q, hq, this⟩
         have h1 : (p.1 == n) = false := by
          rw [beq_eq_false_iff_ne]; intro e'; exact hnd.1 (e' ▸ hmem)
         rw [List.find?_cons, h1]
         exact ih2 j e he hek hnd.2
 have hF := hfind D.files es.toList hmap
 rcases findNow_spec hk es.toList 0 hks with ⟨h1, h2⟩ | ⟨j, e, h1, h2, h3⟩
 · have := hF.1 h2
   simp [Instr.lookup, run_underlying hm, Go.MapKept.run_getObj_map hb, Go.MapKept.run_checkKey hd hk, Go.MapKept.run_findKey hd h1, Result.andThen, hzr, DiskD.find, this, fileV]
 · obtain ⟨p, hp, hv⟩ := hF.2 j e h2 h3 h.names
   simp [Instr.lookup, run_underlying hm, Go.MapKept.run_getObj_map hb, Go.MapKept.run_checkKey hd hk, Go.MapKept.run_findKey hd h1, Result.andThen, DiskD.find, hp, hv, fileV]
theorem DiskAt.cell {base : Nat} {w : World} {D : DiskD} (h : DiskAt base w D) (i : Nat) (v : Value) (hv : D.head[i]? = some v) : w.cell? ⟨D.blk, i, none⟩ = some v := by
 unfold World.cell?; rw [show w.heap[(⟨D.blk, i, none⟩ : Addr).block]? = _ from h.head]; exact hv
theorem DiskAt.frozen {base : Nat} {w : World} {D : DiskD} (h : DiskAt base w D) (i : Nat) : w.frozen? ⟨D.blk, i, none⟩ = false := by
 unfold World.frozen?; rw [show w.heap[(⟨D.blk, i, none⟩ : Addr).block]? = _ from h.head]; rfl
theorem new_disk (base : Nat) (w : World) (hb : base ≤ w.heap.size) (cap : Int) (hc : 0 ≤ cap ∧ cap ≤ 16777216) :
 DiskAt base ((w.alloc (.map #[] 0)).alloc (.cells #[.int .i64 (-1), .bool false, .map (some w.heap.size), .slice none 0 0, .int .i64 cap] 86)) ⟨w.heap.size + 1, -1, false, w.heap.size, [], .slice none 0 0, [], cap⟩ := by
 have hs : (w.alloc (.map #[] 0)).heap.size = w.heap.size + 1 := World.size_alloc _ _
 refine ⟨?_, ⟨#[], 0, ?_, stamped_empty 0, rfl⟩, fun p hp => (by cases hp), ⟨rfl, .inl ⟨rfl, rfl⟩⟩, List.nodup_nil, List.nodup_nil, ⟨by show w.heap.size + 1 ≠ w.heap.size; omega, fun p hp => (by cases hp), fun k hk => (by cases hk)⟩, ⟨by show base ≤ w.heap.size + 1; omega, hb, fun p hp => (by cases hp)⟩, ⟨by show (-1 : Int) ≤ -1; omega, by show (-1 : Int) ≤ _; omega, hc.1, hc.2⟩, hc.1, fun x hx => (by cases hx)⟩
 · show _[w.heap.size + 1]? = _
   rw [← hs]; exact heap_alloc_new _ _
 · show _[w.heap.size]? = _
   rw [Below.heap_alloc _ _ _ (by rw [hs]; omega)]; exact heap_alloc_new _ _
theorem new_any (c : Int) (base : Nat) (w : World) (hb : base ≤ w.heap.size) :
 Calls Tryz.prog 8 #[.int .i64 c] w fun e w' => ∃ D, e = .returned (.pointer (some ⟨D.blk, 0, none⟩)) ∧ DiskAt base w' D ∧ Below w.heap.size w w' ∧ w.heap.size ≤ D.blk ∧ w.heap.size ≤ D.mB ∧
  D.left = -1 ∧ D.down = false ∧ D.files = [] ∧ D.waits = [] ∧ D.wv = .slice none 0 0 ∧ D.cap = min (max c 0) 16777216 := by
 have hmk : ∀ w : World, (Instr.makeMap 83 none).run Tryz.prog w = .ok (.map (some w.heap.size)) (w.alloc (.map #[] 0)) := fun _ => rfl
 have hbel : ∀ o, Below w.heap.size w ((w.alloc (.map #[] 0)).alloc o) := fun o => ((Below.refl _ _).alloc (Nat.le_refl _) _).alloc (by simp) _
 have hnd := new_disk base w hb
 have HB := Lib.hid hbel
 have HN := Lib.hid hnd
 clear hbel hnd hb
 go_enter Tryz.func8, Tryz.ntmps8
 go_wp2_with fail
 all_goals
  go_ret
  refine ⟨_, rfl, HN.out _ (by omega), HB.out _, by simp, Nat.le_refl _, rfl, rfl, rfl, rfl, rfl, ?_⟩
  first | (dsimp only; done) | (dsimp only; omega)
theorem down_any {base : Nat} {D : DiskD} (w : World) (h : DiskAt base w D) :
 Calls Tryz.prog 72 #[.pointer (some ⟨D.blk, 0, none⟩)] w fun e w' => e = .returned (.bool D.down) ∧ w' = w := by
 have c1 : w.cell? ⟨D.blk, 1, none⟩ = some (.bool D.down) := h.cell 1 _ rfl
 clear h
 go_enter Tryz.func72, Tryz.ntmps72
 go_wp2_with fail
 go_ret
 exact ⟨rfl, rfl⟩
theorem bars_any {base : Nat} {D : DiskD} (a : Option Addr) (cap : Nat) (ns : List (List UInt8)) (hns : ns.length ≤ 1048576) (w : World) (h : DiskAt base w D) (hr : Row1 w a (ns.map fun x => .string (S x))) :
 Calls Tryz.prog 195 #[.pointer (some ⟨D.blk, 0, none⟩), .slice a ns.length cap] w fun e w' => e = .returned (.int .i64 (D.bars ns)) ∧ w' = w := by
 have c1 : w.cell? ⟨D.blk, 1, none⟩ = some (.bool D.down) := h.cell 1 _ rfl
 have c2 : w.cell? ⟨D.blk, 2, none⟩ = some (.map (some D.mB)) := h.cell 2 _ rfl
 have HL := Lib.hid (fun n => lookup_file h n)
 have HH := Lib.hid hr
 have HB : Hid (D.bars ns = if D.down then 8 else if ns.all fun n => (D.find n).isSome then 0 else 9) := rfl
 clear h hr
 generalize D.down = dn at *
 cases dn
 ·
  go_enter Tryz.func195, Tryz.ntmps195
  go_wp2_with fail
  go_loopw [18] (fun i wr => ∃ k : Nat, k ≤ ns.length ∧ i = .int .i64 (k : Int) ∧ Hid ((ns.take k).all fun n => (D.find n).isSome) ∧ wr = w) (fun i _ => ns.length + 1 - (intOf i).toNat)
  case atStart => exact ⟨0, by omega, rfl, rfl, rfl⟩
  case round =>
   obtain ⟨k, hk, rfl, HA, rfl⟩ := hrel
   by_cases hlt : k < ns.length
   ·
    obtain ⟨b, off, hbo, hcell⟩ := HH.out k (by rw [List.length_map]; exact hlt)
    rw [List.getElem_map] at hcell
    have hlk := HL.out ns[k]
    have hst : (ns.take (k + 1)).all (fun n => (D.find n).isSome) = ((ns.take k).all (fun n => (D.find n).isSome) && (D.find ns[k]).isSome) := by
     rw [List.take_succ_eq_append_getElem hlt, List.all_append]; simp
    have hno : (D.find ns[k]).isSome = false → (ns.all fun n => (D.find n).isSome) = false := fun h => by
     rw [List.all_eq_false]; exact ⟨ns[k], List.getElem_mem hlt, by rw [h]; simp⟩
    have HST := Lib.hid hst
    have HNO := Lib.hid hno
    clear hst hno
    generalize ns[k] = x at *
    generalize D.find x = f at *
    rw [hbo] at *
    cases f with
    | none =>
      have HT : Hid (D.bars ns = 9) := by show _ = _; rw [HB.out, HNO.out rfl]; rfl
      clear HST HNO HB
      unfold fileV at hlk
      simp only [Option.map_none] at hlk
      go_wp2_with fail
      go_ret
      rw [HT.out]
      exact ⟨rfl, rfl⟩
    | some f =>
      have HA2 : Hid ((ns.take (k + 1)).all (fun n => (D.find n).isSome) = true) := by show _ = _; rw [HST.out, HA.out]; rfl
      clear HST HNO HA
      unfold fileV at hlk
      simp only [Option.map_some] at hlk
      go_wp2_with fail
      go_roundw
      case rel => exact ⟨k + 1, by omega, by go_num, HA2, trivial⟩
      case measure => simp [intOf]; omega
   ·
    obtain rfl : k = ns.length := by omega
    rw [List.take_length] at HA
    have HT : Hid (D.bars ns = 0) := by show _ = _; rw [HB.out, HA.out]; rfl
    clear HB
    go_wp2_with fail
    go_ret
    rw [HT.out]
    exact ⟨rfl, rfl⟩
 ·
  go_enter Tryz.func195, Tryz.ntmps195
  go_wp2_with fail
  go_ret
  rw [HB.out]
  exact ⟨rfl, rfl⟩
theorem DiskAt.rehead {base : Nat} {w w' : World} {D : DiskD} (h : DiskAt base w D) (l : Int) (d : Bool) (hl : -1 ≤ l ∧ l ≤ 9223372036854775807) (hm : Mod (fun k => k = D.blk) w w')
 (hh : w'.heap[D.blk]? = some (.cells ({ D with left := l, down := d } : DiskD).head 86 (0, 0))) : DiskAt base w' { D with left := l, down := d } := by
 have key : ∀ k, D.foot k → k ≠ D.blk → w'.heap[k]? = w.heap[k]? := fun k hk hne => hm.block k (h.lt hk) hne
 obtain ⟨es, c, m1, m2, m3⟩ := h.map
 refine ⟨hh, ⟨es, c, (key _ (.inr (.inl rfl)) (fun e => h.apart.1 e.symm)).trans m1, m2, m3⟩, fun p hp => (key _ (.inr (.inr (.inl ⟨p, hp, rfl⟩))) (h.apart.2.1 p hp).1).trans (h.file p hp), ?_, h.names, h.blocks, h.apart, h.above, ⟨hl.1, hl.2, h.ints.2.2⟩, h.fits, h.waitf⟩
 refine ⟨h.row.1, ?_⟩
 rcases h.row.2 with h0 | ⟨g, cap, cur, e, hb, hg, r⟩
 · exact .inl h0
 · have hown : D.wv.ownBlock = some g := by rw [e]; rfl
   exact .inr ⟨g, cap, cur, e, hb, (key g (.inr (.inr (.inr hown))) (h.apart.2.2 g hown).1).trans hg, r⟩
theorem heap_set1 {w : World} {B i : Nat} {cs : Array Value} {ty : TypeId} (h : w.heap[B]? = some (.cells cs ty (0, 0))) (v : Value) {cs' : Array Value} (he : cs.setIfInBounds i v = cs') :
 (w.setCell ⟨B, i, none⟩ v).heap[B]? = some (.cells cs' ty (0, 0)) := by rw [← he]; exact heap_setCell_same w B i cs ty v h
theorem mod_set (w : World) (B i : Nat) (v : Value) : Mod (fun k => k = B) w (w.setCell ⟨B, i, none⟩ v) := (Mod.refl (fun k => k = B) w).setCell (a := ⟨B, i, none⟩) (.inl rfl) v
theorem burn_any {base : Nat} {D : DiskD} (w : World) (h : DiskAt base w D) :
 Calls Tryz.prog 243 #[.pointer (some ⟨D.blk, 0, none⟩)] w fun e w' => e = .returned (.bool (!decide (D.left = 0))) ∧ DiskAt base w' D.burn ∧ Mod (fun k => k = D.blk) w w' := by
 have c0 : w.cell? ⟨D.blk, 0, none⟩ = some (.int .i64 D.left) := h.cell 0 _ rfl
 have c1 : w.cell? ⟨D.blk, 1, none⟩ = some (.bool D.down) := h.cell 1 _ rfl
 have hfr := h.frozen
 have hl1 := h.ints.1
 have hl2 := h.ints.2.1
 have HD := Lib.hid h
 have HB : Hid (D.burn = if D.left = 0 then { D with left := -1, down := true } else if 0 < D.left then { D with left := D.left - 1 } else D) := rfl
 clear h
 by_cases h0 : D.left = 0
 ·
  have hm : Hid (Mod (fun k => k = D.blk) w ((w.setCell ⟨D.blk, 0, none⟩ (.int .i64 (-1))).setCell ⟨D.blk, 1, none⟩ (.bool true))) := (mod_set _ _ _ _).trans (mod_set _ _ _ _)
  have hh : Hid (((w.setCell ⟨D.blk, 0, none⟩ (.int .i64 (-1))).setCell ⟨D.blk, 1, none⟩ (.bool true)).heap[D.blk]? = some (.cells ({ D with left := -1, down := true } : DiskD).head 86 (0, 0))) :=
   heap_set1 (heap_set1 HD.out.head _ rfl) _ rfl
  rw [h0] at c0
  go_enter Tryz.func243, Tryz.ntmps243
  go_wp2_with fail
  go_ret
  refine ⟨by rw [h0]; rfl, ?_, hm.out⟩
  rw [HB.out, if_pos h0]
  exact HD.out.rehead _ _ (by omega) hm.out hh.out
 ·
  have e1 : (D.left == 0) = false := by simp [h0]
  have hd : decide (D.left = 0) = false := decide_eq_false h0
  by_cases h1 : 0 < D.left
  ·
   have hm : Hid (Mod (fun k => k = D.blk) w (w.setCell ⟨D.blk, 0, none⟩ (.int .i64 (D.left - 1)))) := mod_set _ _ _ _
   have hh : Hid ((w.setCell ⟨D.blk, 0, none⟩ (.int .i64 (D.left - 1))).heap[D.blk]? = some (.cells ({ D with left := D.left - 1 } : DiskD).head 86 (0, 0))) := heap_set1 HD.out.head _ rfl
   have e2 : decide (0 < D.left) = true := decide_eq_true h1
   go_enter Tryz.func243, Tryz.ntmps243
   go_wp2_with fail
   go_ret
   refine ⟨by rw [hd]; rfl, ?_, hm.out⟩
   rw [HB.out, if_neg h0, if_pos h1]
   exact HD.out.rehead _ D.down (by omega) hm.out hh.out
  ·
   have e2 : decide (0 < D.left) = false := decide_eq_false h1
   go_enter Tryz.func243, Tryz.ntmps243
   go_wp2_with fail
   go_ret
   refine ⟨by rfl, ?_, Mod.refl _ _⟩
   rw [HB.out, if_neg h0, if_neg (by omega)]
   exact HD.out
def DiskD.done (D : DiskD) : Int := if D.left = 0 then 8 else 0
theorem done_any {base : Nat} {D : DiskD} (w : World) (h : DiskAt base w D) :
 Calls Tryz.prog 196 #[.pointer (some ⟨D.blk, 0, none⟩)] w fun e w' => e = .returned (.int .i64 D.done) ∧ DiskAt base w' D.burn ∧ Mod (fun k => k = D.blk) w w' := by
 have HC := Lib.hid (burn_any w h)
 have HF : Hid (D.done = if D.left = 0 then 8 else 0) := rfl
 clear h
 go_enter Tryz.func196, Tryz.ntmps196
 go_wp2_with fail
 refine HC.out.mono ?_
 rintro e w2 ⟨rfl, hd, hm⟩
 have HD := Lib.hid hd
 have HM := Lib.hid hm
 clear hd hm HC
 by_cases h0 : D.left = 0
 ·
  have hd : decide (D.left = 0) = true := decide_eq_true h0
  rw [if_pos h0] at HF
  rw [hd]
  go_wp2_with fail
  go_ret
  rw [HF.out]
  exact ⟨rfl, HD.out, HM.out⟩
 ·
  have hd : decide (D.left = 0) = false := decide_eq_false h0
  rw [if_neg h0] at HF
  rw [hd]
  go_wp2_with fail
  go_ret
  rw [HF.out]
  exact ⟨rfl, HD.out, HM.out⟩
end Go.Proofs.YtjjkhbfimpgplaaGreatDoor.DskW
namespace Go.Proofs.YtjjkhbfimpgplaaGreatDoor.DskW
open Go.RowKit Go.MapKept Go.ChangeMaps OctMath
set_option linter.unusedVariables false
set_option linter.unusedSimpArgs false
set_option maxRecDepth 100000
/-! a loop over a map's entries: each comes once -/
theorem leftOf_push (es : Array MapEntry) (seen : Array Nat) (b : Nat) : (leftOf es (seen.push b)).toList = (leftOf es seen).toList.filter (fun x => !(x.born == b)) := by
 unfold leftOf
 simp only [Array.toList_filter, List.filter_filter]
 apply List.filter_congr
 intro x _
 simp only [Array.contains_push]
 cases h1 : seen.contains x.born <;> cases h2 : (x.born == b) <;> simp_all
theorem leftOf_nil (es : Array MapEntry) : (leftOf es #[]).toList = es.toList := by
 unfold leftOf
 simp
theorem leftOf_nodup {es : Array MapEntry} (h : (es.toList.map (·.born)).Nodup) (seen : Array Nat) : ((leftOf es seen).toList.map (·.born)).Nodup := by
 unfold leftOf
 rw [Array.toList_filter]
 exact (List.filter_sublist.map _).nodup h
theorem sum_strike (f : MapEntry → Nat) : ∀ (l : List MapEntry) (e : MapEntry), e ∈ l → (l.map (·.born)).Nodup → (l.map f).sum = f e + ((l.filter fun x => !(x.born == e.born)).map f).sum ∧ (l.filter fun x => !(x.born == e.born)).length + 1 = l.length := by
 intro l
 induction l with
 | nil => intro e he; cases he
 | cons x l ih =>
   intro e he hn
   simp only [List.map_cons, List.nodup_cons] at hn
   rcases List.mem_cons.1 he with rfl | he
   ·
    have hno : l.filter (fun x => !(x.born == e.born)) = l := by
     rw [List.filter_eq_self]
     intro y hy
     simp only [Bool.not_eq_true', beq_eq_false_iff_ne]
     intro h; exact hn.1 (h ▸ List.mem_map.2 ⟨y, hy, rfl⟩)
    rw [List.filter_cons_of_neg (by simp), hno]
    exact ⟨by simp, rfl⟩
   ·
    have hne : (x.born == e.born) = false := by
     rw [beq_eq_false_iff_ne]; intro h; exact hn.1 (h ▸ List.mem_map.2 ⟨e, he, rfl⟩)
    obtain ⟨h1, h2⟩ := ih e he hn.2
    rw [List.filter_cons_of_pos (by rw [hne]; rfl)]
    simp only [List.map_cons, List.sum_cons, List.length_cons, h1]
    exact ⟨by omega, by omega⟩
def wtL (fs : List (List UInt8 × FileD)) (v : Value) : Nat := match v with
 | .pointer (some a) => ((fs.find? fun p => p.2.blk == a.block).map (·.2.now.length)).getD 0
 | _ => 0
theorem find_blk : ∀ (fs : List (List UInt8 × FileD)), (fs.map (·.2.blk)).Nodup → ∀ p ∈ fs, fs.find? (fun q => q.2.blk == p.2.blk) = some p := by
 intro fs
 induction fs with
 | nil => intro _ p hp; cases hp
 | cons x l ih =>
   intro hn p hp
   simp only [List.map_cons, List.nodup_cons] at hn
   rcases List.mem_cons.1 hp with rfl | hp
   · simp
   · have hne : (x.2.blk == p.2.blk) = false := by
      rw [beq_eq_false_iff_ne]; intro h; exact hn.1 (h ▸ List.mem_map.2 ⟨p, hp, rfl⟩)
     rw [List.find?_cons, hne]
     exact ih hn.2 p hp
theorem sum_wt {fs : List (List UInt8 × FileD)} {l : List MapEntry} (hn : (fs.map (·.2.blk)).Nodup) (h : l.map (fun e : MapEntry => (e.key, e.val)) = fs.map (fun p => (Value.string (S p.1), Value.pointer (some ⟨p.2.blk, 0, none⟩)))) :
 (l.map fun e => wtL fs e.val).sum = sizeL fs := by
 have h2 : l.map (fun e => wtL fs e.val) = (l.map (fun e : MapEntry => (e.key, e.val))).map (fun q => wtL fs q.2) := by rw [List.map_map]; rfl
 rw [h2, h, List.map_map]
 unfold sizeL
 congr 1
 apply List.map_congr_left
 intro p hp
 show wtL fs (.pointer (some ⟨p.2.blk, 0, none⟩)) = _
 show ((fs.find? fun q => q.2.blk == p.2.blk).map (·.2.now.length)).getD 0 = _
 rw [find_blk fs hn p hp]; rfl
theorem entry_file {fs : List (List UInt8 × FileD)} {l : List MapEntry} (h : l.map (fun e : MapEntry => (e.key, e.val)) = fs.map (fun p => (Value.string (S p.1), Value.pointer (some ⟨p.2.blk, 0, none⟩)))) {e : MapEntry} (he : e ∈ l) :
 ∃ p ∈ fs, e.key = .string (S p.1) ∧ e.val = .pointer (some ⟨p.2.blk, 0, none⟩) := by
 have : (e.key, e.val) ∈ fs.map (fun p => (Value.string (S p.1), Value.pointer (some ⟨p.2.blk, 0, none⟩))) := by rw [← h]; exact List.mem_map.2 ⟨e, he, rfl⟩
 obtain ⟨p, hp, hq⟩ := List.mem_map.1 this
 exact ⟨p, hp, (Prod.mk.inj hq).1.symm, (Prod.mk.inj hq).2.symm⟩
structure Iter (w : World) (b r : Nat) (es : Array MapEntry) (clk : Nat) (seen : Array Nat) : Prop where
 map : w.heap[b]? = some (.map es clk)
 iter : w.heap[r]? = some (.mapIter (some b) clk seen clk)
theorem iter_next {w : World} {b r : Nat} {es : Array MapEntry} {clk : Nat} {seen : Array Nat} (h : Iter w b r es clk seen) (hne : r ≠ b) (hst : Stamped es clk) (P : Program) (ty : TypeId) :
 ((leftOf es seen).size = 0 ∧ (Instr.next (.pointer (some ⟨r, 0, none⟩)) false ty).run P w = .ok (.tuple #[.bool false]) w) ∨
 ∃ e ∈ (leftOf es seen).toList, ∃ w1 : World, Iter w1 b r es clk (seen.push e.born) ∧ Mod (fun k => k = r) w w1 ∧ (Instr.next (.pointer (some ⟨r, 0, none⟩)) false ty).run P w = .ok (.tuple #[.bool true, e.key, e.val]) w1 ∧
  (Instr.entry (.pointer (some ⟨r, 0, none⟩))).run P w1 = .ok (.tuple #[e.key, e.val]) w1 := by
 rcases run_next_at (P := P) w ty r b clk clk seen es clk h.iter h.map hst.1 (Nat.le_refl _) with h0 | ⟨e, he, w1, hw1, hrun⟩
 · exact .inl h0
 ·
  right
  have hr1 : w1.heap[r]? = some (.mapIter (some b) clk seen clk) := by rcases hw1 with rfl | rfl <;> exact h.iter
  have hb1 : w1.heap[b]? = some (.map es clk) := by rcases hw1 with rfl | rfl <;> exact h.map
  have hrl : r < w1.heap.size := (Array.getElem?_eq_some_iff.1 hr1).1
  have hi : Iter (setBlock w1 r (.mapIter (some b) clk (seen.push e.born) clk)) b r es clk (seen.push e.born) := by
   refine ⟨?_, ?_⟩
   · show (w1.heap.setIfInBounds r _)[b]? = _
     rw [Array.getElem?_setIfInBounds_ne hne]; exact hb1
   · show (w1.heap.setIfInBounds r _)[r]? = _
     simp [hrl]
  have hee : e ∈ es.toList := by
   unfold leftOf at he
   rw [Array.toList_filter] at he
   exact (List.mem_filter.1 he).1
  refine ⟨e, he, _, hi, ?_, hrun, run_entry_at _ r b clk seen es clk e hi.iter hi.map hee hst.2.1⟩
  have hm1 : Mod (fun k => k = r) w w1 := by
   rcases hw1 with rfl | rfl
   · exact Mod.refl _ _
   · exact (Mod.refl _ _).drew
  refine hm1.trans ⟨rfl, rfl, rfl, by simp [setBlock], fun k hk hkr => ?_⟩
  show (w1.heap.setIfInBounds r _)[k]? = _
  exact Array.getElem?_setIfInBounds_ne (fun e => hkr e.symm)
theorem size_any {base : Nat} {D : DiskD} (w : World) (h : DiskAt base w D) :
 Calls Tryz.prog 217 #[.pointer (some ⟨D.blk, 0, none⟩)] w fun e w' => e = .returned (.int .i64 (D.size : Int)) ∧ Below w.heap.size w w' := by
 have c2 : w.cell? ⟨D.blk, 2, none⟩ = some (.map (some D.mB)) := h.cell 2 _ rfl
 obtain ⟨es, clk, hb, hst, hmap⟩ := h.map
 have hm := Tryz.underlying83
 have hrg : (Instr.range 83 (.map (some D.mB))).run Tryz.prog w = .ok (.pointer (some ⟨w.heap.size, 0, none⟩)) (w.alloc (.mapIter (some D.mB) clk #[] clk)) := by
  simp [Instr.range, run_underlying hm, Go.MapKept.run_getObj_map hb, Result.andThen]
 have HD := Lib.hid h
 clear h
 go_enter Tryz.func217, Tryz.ntmps217
 go_wp2_with fail
 have hlt : D.mB < w.heap.size := (Array.getElem?_eq_some_iff.1 hb).1
 have HS : Hid ((es.toList.map fun e => wtL D.files e.val).sum = D.size) := sum_wt HD.out.blocks hmap
 have HM := Lib.hid hmap
 have HI : Hid (Iter (w.alloc (.mapIter (some D.mB) clk #[] clk)) D.mB w.heap.size es clk #[]) := ⟨(Below.heap_alloc _ _ _ (by omega)).trans hb, heap_alloc_new _ _⟩
 have HB : Hid (Below w.heap.size w (w.alloc (.mapIter (some D.mB) clk #[] clk))) := (Below.refl _ _).alloc (Nat.le_refl _) _
 have HST := Lib.hid hst
 have hfit : (D.size : Int) ≤ 16777216 := by have h1 := HD.out.fits; have h2 := HD.out.ints; omega
 clear hmap hb hst hm hrg
 generalize w.alloc (.mapIter (some D.mB) clk #[] clk) = w1 at *
 generalize hr : w.heap.size = r at *
 have hwr : w.heap.size = r := hr
 clear hr
 obtain ⟨sz, hsz⟩ : ∃ s, D.size = s := ⟨_, rfl⟩
 rw [hsz] at HS hfit
 have HSZ := Lib.hid hsz
 clear hsz
 go_loopw [3] (fun i wr => ∃ (seen : Array Nat) (k : Nat), i = .int .i64 (k : Int) ∧ Hid (k + ((leftOf es seen).toList.map fun e => wtL D.files e.val).sum = sz) ∧ Hid (Iter wr D.mB r es clk seen) ∧ Hid (Below r w wr)) (fun _ wr => match wr.heap[D.mB]?, wr.heap[r]? with | some (.map es _), some (.mapIter _ _ seen _) => (leftOf es seen).size | _, _ => 0)
 case atStart => exact ⟨#[], 0, rfl, by show _ = _; rw [leftOf_nil, HS.out]; omega, HI.out, HB.out⟩
 case round =>
  obtain ⟨seen, k, rfl, HK, HI2, HB2⟩ := hrel
  clear HI HB
  rcases iter_next HI2.out (by omega) HST.out Tryz.prog 0 with ⟨h0, hrun⟩ | ⟨e, he, w2, hi, hm, hrun, hent⟩
  ·
   have hnil : (leftOf es seen).toList = [] := by rw [← List.length_eq_zero_iff, Array.length_toList]; exact h0
   have HKS : Hid (k = sz) := by show _ = _; have := HK.out; rw [hnil] at this; simpa using this
   clear HK hnil h0 HI2 HST
   go_wp2_with fail
   go_ret
   rw [HSZ.out, HKS.out]
   exact ⟨rfl, by rw [hwr]; exact HB2.out⟩
  ·
   have hmem : e ∈ es.toList := by
    unfold leftOf at he
    rw [Array.toList_filter] at he
    exact (List.mem_filter.1 he).1
   obtain ⟨p, hp, hkey, hval⟩ := entry_file HM.out hmem
   have hmb : Below r wr w2 := hm.to_below r (by have := HB2.out.size; omega) (fun k hk => by omega)
   have HB3 := Lib.hid (HB2.out.trans hmb)
   have hc : w2.cell? ⟨p.2.blk, 1, none⟩ = some (.string (S p.2.now)) := by
    have := (HD.out.below (hwr ▸ HB3.out)).file p hp
    unfold World.cell?; rw [show w2.heap[(⟨p.2.blk, 1, none⟩ : Addr).block]? = _ from this]; rfl
   have hw : wtL D.files e.val = p.2.now.length := by
    rw [hval]
    show ((D.files.find? fun q => q.2.blk == p.2.blk).map (·.2.now.length)).getD 0 = _
    rw [find_blk D.files HD.out.blocks p hp]; rfl
   obtain ⟨s1, s2⟩ := sum_strike (fun e => wtL D.files e.val) _ e he (leftOf_nodup HST.out.2.1 seen)
   rw [← leftOf_push] at s1 s2
   have HK2 : Hid (k + p.2.now.length + ((leftOf es (seen.push e.born)).toList.map fun e => wtL D.files e.val).sum = sz) := by show _ = _; have := HK.out; omega
   have HS2 : Hid ((leftOf es (seen.push e.born)).size < (leftOf es seen).size) := by show _ < _; rw [← Array.length_toList, ← Array.length_toList]; omega
   have HI3 := Lib.hid hi
   have hkb : (k : Int) + (p.2.now.length : Int) ≤ 16777216 := by have := HK2.out; omega
   have hsz := S_size
   rw [hkey, hval] at hrun hent
   clear he hmem hkey hval hw s1 s2 HK hi hm hmb
   generalize p.2.now = nw at *
   generalize p.2.blk = pb at *
   go_wp2_with fail
   go_roundw
   case rel => exact ⟨seen.push e.born, k + nw.length, by go_num, HK2, HI3, HB3⟩
   case measure =>
    rw [HI3.out.map, HI3.out.iter, HI2.out.map, HI2.out.iter]
    exact HS2.out
def Ext (u v : World) : Prop := Below u.heap.size u v
theorem Ext.refl (w : World) : Ext w w := Below.refl _ _
theorem Ext.trans {u v w : World} (h : Ext u v) (k : Ext v w) : Ext u w := Below.trans h (Below.mono k h.size)
def DiskD.room (D : DiskD) : Int := D.cap - (D.size : Int)
theorem room_any {base : Nat} {D : DiskD} (w : World) (h : DiskAt base w D) :
 Calls Tryz.prog 148 #[.pointer (some ⟨D.blk, 0, none⟩)] w fun e w' => e = .returned (.int .i64 D.room) ∧ Below w.heap.size w w' := by
 have HD := Lib.hid h
 have HR : Hid (D.room = D.cap - (D.size : Int)) := rfl
 have h1 := h.ints.2.2
 have h2 := h.fits
 have hwr : IntKind.i64.wrap (D.cap - (D.size : Int)) = D.cap - (D.size : Int) := IntWalk.i64_in _ (by omega)
 clear h
 go_enter Tryz.func148, Tryz.ntmps148
 go_wp2_with fail
 refine Grow.wp_region_g 8 [none, none, none, some (.inl (.int .i64 D.cap)), none, some (.inl (.int .i64 (D.size : Int))), none, none] Ext (by kernel_rfl) (by kernel_rfl) (by kernel_rfl) Ext.refl (fun _ _ _ => Ext.trans) ?_ ?_
 · intro K hK Y hY v w w' hR h
   simp only [List.mem_cons, List.not_mem_nil, or_false] at hK
   rcases hK with rfl | rfl | rfl | rfl | rfl | rfl | rfl | rfl <;> simp only [reduceCtorEq, Option.some.injEq, Sum.inr.injEq] at hY
 simp only [List.take_succ_cons, List.take_zero, List.drop_succ_cons, List.drop_zero]
 iterate 3
  refine Grow.g_det rfl ?_
  apply Exists.intro
  refine ⟨fun w2 hw hF => ?_, ?_⟩
  · clear hF
    go_simp
    exact ⟨rfl, Ext.refl _⟩
  go_frame
 refine Grow.g_con rfl (fun w2 hw hF => ?_) ?_
 ·
  clear hF
  have c4 : w2.cell? ⟨D.blk, 4, none⟩ = some (.int .i64 D.cap) := (HD.out.below ((Below.refl _ _).drew.trans hw)).cell 4 _ rfl
  go_simp
  all_goals exact Ext.refl _
 go_frame
 refine Grow.g_det rfl ?_
 apply Exists.intro
 refine ⟨fun w2 hw hF => ?_, ?_⟩
 · clear hF
   go_simp
   exact ⟨rfl, Ext.refl _⟩
 go_frame
 refine Grow.g_con rfl (fun w2 hw hF => ?_) ?_
 · clear hF
   go_simp
   exact (size_any w2 (HD.out.below ((Below.refl _ _).drew.trans hw))).mono fun e w3 h => ⟨_, h.1, rfl, h.2⟩
 iterate 2
  go_frame
  refine Grow.g_det rfl ?_
  apply Exists.intro
  refine ⟨fun w2 hw hF => ?_, ?_⟩
  · clear hF
    go_simp
    exact ⟨rfl, Ext.refl _⟩
 go_frame
 refine Grow.g_nil fun w3 hw3 hF => ?_
 clear hF
 refine wpList_nil ?_
 have HB := Lib.hid ((Below.refl w.heap.size w).drew.trans hw3)
 clear hw3
 go_wp2_with fail
 go_ret
 rw [HR.out]
 exact ⟨rfl, HB.out⟩
end Go.Proofs.YtjjkhbfimpgplaaGreatDoor.DskW
namespace Go.Proofs.YtjjkhbfimpgplaaGreatDoor.DskW
open Go.RowKit Go.MapKept OctMath
set_option linter.unusedVariables false
set_option linter.unusedSimpArgs false
set_option maxRecDepth 100000
structure RowC (g : Nat) (l : List UInt8) (c : Nat) (w : World) : Prop where
 row : Row g l w
 le : l.length ≤ c
 there : ∀ j, j < c → (w.cell? ⟨g, j, none⟩).isSome = true
 free : ∀ j, j < c → w.frozen? ⟨g, j, none⟩ = false
def put1 (l : List UInt8) (o : Nat) (v : UInt8) : List UInt8 := if o < l.length then l.set o v else l ++ [v]
def overB (l : List UInt8) (o : Nat) (vs : List UInt8) : List UInt8 := l.take o ++ vs ++ l.drop (o + vs.length)
theorem put1_over (l : List UInt8) (o : Nat) (v : UInt8) (h : o ≤ l.length) : put1 l o v = overB l o [v] := by
 unfold put1 overB
 split
 · rename_i hl
   rw [List.set_eq_take_append_cons_drop, if_pos hl]; simp
 · have : o = l.length := by omega
   subst this; simp
theorem over_cons (l : List UInt8) (o : Nat) (v : UInt8) (vs : List UInt8) (h : o ≤ l.length) : overB (overB l o [v]) (o + 1) vs = overB l o (v :: vs) := by
 unfold overB
 have h1 : (l.take o ++ [v] ++ l.drop (o + [v].length)).take (o + 1) = l.take o ++ [v] := by
  rw [List.take_append_of_le_length (by simp; omega)]
  rw [List.take_of_length_le (by simp; omega)]
 have h2 : (l.take o ++ [v] ++ l.drop (o + [v].length)).drop (o + 1 + vs.length) = l.drop (o + (v :: vs).length) := by
  rw [List.drop_append, List.drop_of_length_le (by simp; omega)]
  simp only [List.length_append, List.length_take, List.length_cons, List.length_nil, List.drop_drop, List.nil_append]
  congr 1; omega
 rw [h1, h2]; simp
theorem over_nil (l : List UInt8) (o : Nat) : overB l o [] = l := by unfold overB; simp
theorem over_length (l : List UInt8) (o : Nat) (vs : List UInt8) (h : o ≤ l.length) : (overB l o vs).length = max l.length (o + vs.length) := by
 unfold overB; simp only [List.length_append, List.length_take, List.length_drop]; omega
theorem RowC.put {g : Nat} {l : List UInt8} {c : Nat} {w : World} (h : RowC g l c w) (o : Nat) (ho : o ≤ l.length) (hc : o < c) (v : UInt8) : RowC g (put1 l o v) c (w.setCell ⟨g, o, none⟩ (.int .u8 (v.toNat : Int))) := by
 have hsome : ∀ j, j < c → ((w.setCell ⟨g, o, none⟩ (.int .u8 (v.toNat : Int))).cell? ⟨g, j, none⟩).isSome = true := fun j hj => by
  by_cases e : o = j
  · subst e
    obtain ⟨u, hu⟩ := Option.isSome_iff_exists.1 (h.there o hj)
    rw [World.cell?_setCell_same _ _ _ hu]; rfl
  · rw [World.cell?_setCell_other _ _ _ _ (fun q => e (congrArg Addr.off q))]; exact h.there j hj
 have hfree : ∀ j, j < c → (w.setCell ⟨g, o, none⟩ (.int .u8 (v.toNat : Int))).frozen? ⟨g, j, none⟩ = false := fun j hj => by rw [World.frozen?_setCell]; exact h.free j hj
 unfold put1
 split
 · rename_i hl
   exact ⟨h.row.set o hl v, by simpa using h.le, hsome, hfree⟩
 ·
  have he : o = l.length := by omega
  subst he
  refine ⟨⟨by simpa using h.row.lt, fun j hj => ?_, fun j hj => ?_⟩, by simp; omega, hsome, hfree⟩
  ·
   by_cases e : j < l.length
   · rw [World.cell?_setCell_other _ _ _ _ (fun q => by have := congrArg Addr.off q; simp at this; omega), List.getElem_append_left e]; exact h.row.cell j e
   · have hje : j = l.length := by simp at hj; omega
     subst hje
     obtain ⟨u, hu⟩ := Option.isSome_iff_exists.1 (h.there _ hc)
     rw [World.cell?_setCell_same _ _ _ hu]; simp
  · rw [World.frozen?_setCell]; exact h.free j (by simp at hj; omega)
theorem RowC.puts {g c : Nat} : ∀ (vs : List UInt8) (l : List UInt8) (o : Nat) (w : World), RowC g l c w → o ≤ l.length → o + vs.length ≤ c →
 RowC g (overB l o vs) c (w.setCells g o (vs.map fun x => Value.int .u8 (x.toNat : Int))) ∧ Mod (fun k => k = g) w (w.setCells g o (vs.map fun x => Value.int .u8 (x.toNat : Int)))
 | [], l, o, w, h, _, _ => by rw [over_nil]; exact ⟨h, Mod.refl _ _⟩
 | v :: vs, l, o, w, h, ho, hc => by
   simp only [List.length_cons] at hc
   have h1 := h.put o ho (by omega) v
   rw [put1_over l o v ho] at h1
   obtain ⟨h2, h3⟩ := RowC.puts vs _ (o + 1) _ h1 (by rw [over_length _ _ _ ho]; simp only [List.length_cons, List.length_nil]; omega) (by omega)
   rw [over_cons l o v vs ho] at h2
   exact ⟨h2, (mod_set w g o _).trans h3⟩
theorem conv_bytes {P : Program} (w : World) (src dst e : TypeId) (l : List UInt8) (hs : P.underlying src = some .string) (hd : P.underlying dst = some (.slice e)) (he : P.underlying e = some (.int .u8)) :
 ∃ c w', (convert src dst (.string (S l))).run P w = .ok (.slice (some ⟨w.heap.size, 0, none⟩) l.length c) w' ∧ Below w.heap.size w w' ∧ RowC w.heap.size l c w' := by
 have hsz : (S l).size = l.length := S_size l
 have hC : (Lib.bytesCells w e (S l)).size = grownCap w (S l).size 0 e := by
  have := grownCap_ge w (S l).size 0 e
  unfold Lib.bytesCells; rw [Array.size_append, Array.size_map, Array.size_replicate]
  have h2 : (S l).data.size = (S l).size := rfl
  omega
 have hge := grownCap_ge w (S l).size 0 e
 have hcell : ∀ j, j < grownCap w (S l).size 0 e → ((Lib.bytesWorld w e (S l)).cell? ⟨w.heap.size, j, none⟩).isSome = true := fun j hj => by
  unfold World.cell?
  rw [show (Lib.bytesWorld w e (S l)).heap[(⟨w.heap.size, j, none⟩ : Addr).block]? = _ from Lib.bytesWorld_at_new w e (S l)]
  simp [hC, hj]
 have hfree : ∀ j, j < grownCap w (S l).size 0 e → (Lib.bytesWorld w e (S l)).frozen? ⟨w.heap.size, j, none⟩ = false := fun j hj => by
  unfold World.frozen?
  rw [show (Lib.bytesWorld w e (S l)).heap[(⟨w.heap.size, j, none⟩ : Addr).block]? = _ from Lib.bytesWorld_at_new w e (S l)]
  simp [hC]; omega
 refine ⟨grownCap w (S l).size 0 e, Lib.bytesWorld w e (S l), by rw [Lib.run_convert_string_bytes w src dst e (S l) hs hd he, hsz], ⟨?_, ?_, ?_, ?_, ?_⟩, ⟨⟨by rw [Lib.bytesWorld_size]; omega, fun j hj => ?_, fun j hj => hfree j (by omega)⟩, by omega, hcell, hfree⟩⟩
 iterate 3
  · simp [Lib.bytesWorld, World.freeze, World.alloc, World.drew, -World.alloc_eq, -World.drew_eq]
 · rw [Lib.bytesWorld_size]; omega
 · intro k hk; exact Lib.bytesWorld_at_old w e (S l) k hk
 · rw [Lib.bytesWorld_cell w e (S l) j (by omega)]
   have : (S l).data.toList = l := by simp [S]
   rw [this]; simp [List.getD, hj]
theorem append_zeros {P : Program} (w : World) (t tn ty e : TypeId) (i : TypeInfo) (ht : P.underlying t = some (.slice e)) (htn : P.underlying tn = some (.int .i64)) (hi : P.info? e = some i) (hz : i.zero = some (.int .u8 0)) (h1 : i.size = 1) (hb : i.bytes = 1)
 {g : Nat} {l : List UInt8} {c : Nat} (h : RowC g l c w) (k : Nat) (hk : 0 < k) (hlim : l.length + k ≤ 70368744177664) :
 ∃ g' c' w', (Builtin.append_ #[t, tn] ty #[.slice (some ⟨g, 0, none⟩) l.length c, .int .i64 (k : Int)]).run P w = .ok (.slice (some ⟨g', 0, none⟩) (l.length + k) c') w' ∧ RowC g' (l ++ List.replicate k 0) c' w' ∧ Mod (fun b => b = g) w w' ∧ (g' = g ∨ w.heap.size ≤ g') := by
 by_cases hroom : l.length + k ≤ c
 ·
  obtain ⟨hr, hm⟩ := h.puts (List.replicate k 0) l l.length w (Nat.le_refl _) (by simpa using hroom)
  have hov : overB l l.length (List.replicate k 0) = l ++ List.replicate k 0 := by unfold overB; simp
  rw [hov] at hr
  have hrep : (List.replicate k (0 : UInt8)).map (fun x => Value.int .u8 (x.toNat : Int)) = List.replicate k (.int .u8 0) := by simp
  rw [hrep] at hr hm
  refine ⟨g, c, _, ?_, hr, hm, .inl rfl⟩
  have hw : IntKind.i64.wrap (k : Int) = k := by rw [IntKind.wrap_i64]; omega
  have hneg : ¬ ((k : Int) < 0) := by omega
  have h48 : ¬ (281474976710656 < (k : Int)) := by omega
  have hk0 : k ≠ 0 := by omega
  have hst := run_storeCells_cells (P := P) g l.length (List.replicate k (.int .u8 0)) 0 w (fun j hj => h.there _ (by simp at hj; omega)) (fun j hj => h.free _ (by simp at hj; omega)) (fun v hv => by rw [List.eq_of_mem_replicate hv]; rfl)
  simp only [Nat.add_zero] at hst
  have hzc : Builtin.zeroCells #[.int .u8 0] k = (List.replicate k (Value.int .u8 0)).toArray := by
   apply Array.ext'
   simp only [Builtin.zeroCells, Array.toList_map, Array.toList_range]
   apply List.ext_getElem?
   intro j
   simp only [List.getElem?_map, List.getElem?_replicate]
   by_cases hj : j < k
   · simp [hj, Nat.mod_one]
   · simp [hj]
  have hcl : (Value.int .u8 0).cells = #[.int .u8 0] := rfl
  have hadd : (⟨g, 0, none⟩ : Addr).add l.length = ⟨g, l.length, none⟩ := by unfold Addr.add; split <;> simp_all
  simp [Builtin.append_, run_underlying ht, run_underlying htn, sizeOf, typeInfo, zeroValue, hi, hz, asInt, asIntOf, hw, hneg, h1, hb, h48, hk0, hroom, Result.andThen, hcl, hzc, hadd, hst]
 ·
  have hlim2 : l.length + k ≤ maxLen := by unfold maxLen; omega
  have hcl : (Value.int .u8 0).cells = #[.int .u8 0] := rfl
  have hloads : ∀ (j : Nat) (u : Value), (l.map fun x => Value.int .u8 (x.toNat : Int))[j]? = some u → w.drew.cell? ((⟨g, 0, none⟩ : Addr).add j) = some u := by
   intro j u hu
   rw [List.getElem?_map] at hu
   have hj : j < l.length := by
    rcases Nat.lt_or_ge j l.length with h | h
    · exact h
    · rw [List.getElem?_eq_none h] at hu; cases hu
   rw [List.getElem?_eq_getElem hj] at hu
   have hadd : (⟨g, 0, none⟩ : Addr).add j = ⟨g, j, none⟩ := by unfold Addr.add; split <;> simp_all
   rw [hadd]
   have := h.row.cell j hj
   cases hu; exact this
  have hold : (Builtin.firstCells i.size l.length (.slice (some ⟨g, 0, none⟩) l.length c)).run P w.drew = .ok (l.map fun x => Value.int .u8 (x.toNat : Int)).toArray w.drew := by
   have := run_loadCells_list (P := P) w.drew ⟨g, 0, none⟩ (l.map fun x => Value.int .u8 (x.toNat : Int)) hloads
   rw [List.length_map] at this
   simp only [Builtin.firstCells, h1, Nat.mul_one]
   exact this
  have hfit : Builtin.nextslicecap (l.length + k) c * i.bytes ≤ 281474976710656 := growslice_fits (by omega) (by rw [hb]; omega)
  have hrun := Lib.run_append_grow_zeros (P := P) w t tn ty e i (.int .u8 0) .i64 .i64 ht htn hi hz (some ⟨g, 0, none⟩) l.length c _ hold k hk (by omega) (by omega) (by omega) (by rw [hb]; omega) hfit
  have hge := grownCap_ge w (l.length + k) c e
  rw [hcl] at hrun
  have hzs : ∀ n, Builtin.zeroCells #[.int .u8 0] n = Array.replicate n (Value.int .u8 0) := by
   intro n
   apply Array.ext'
   simp only [Builtin.zeroCells, Array.toList_map, Array.toList_range, Array.toList_replicate]
   apply List.ext_getElem?
   intro j
   simp only [List.getElem?_map, List.getElem?_replicate]
   by_cases hj : j < n
   · simp [hj, Nat.mod_one]
   · simp [hj]
  rw [hzs, hzs] at hrun
  have hAs : ((l.map fun x => Value.int .u8 (x.toNat : Int)).toArray ++ Array.replicate k (Value.int .u8 0) ++ Array.replicate (grownCap w (l.length + k) c e - (l.length + k)) (Value.int .u8 0)).size = grownCap w (l.length + k) c e := by simp; omega
  have hAj : ∀ (j : Nat) (hj : j < (l ++ List.replicate k 0).length), ((l.map fun x => Value.int .u8 (x.toNat : Int)).toArray ++ Array.replicate k (Value.int .u8 0) ++ Array.replicate (grownCap w (l.length + k) c e - (l.length + k)) (Value.int .u8 0))[j]? = some (.int .u8 ((l ++ List.replicate k 0)[j].toNat : Int)) := by
   intro j hj
   have hj2 := hj
   simp only [List.length_append, List.length_replicate] at hj2
   by_cases hl : j < l.length
   · rw [Array.getElem?_append_left (by simp; omega), Array.getElem?_append_left (by simp; omega), List.getElem_append_left hl]
     simp [hl]
   · rw [Array.getElem?_append_left (by simp; omega), Array.getElem?_append_right (by simp; omega), List.getElem_append_right (by omega)]
     simp only [List.size_toArray, List.length_map, List.getElem_replicate, Array.getElem?_replicate]
     rw [if_pos (by omega)]; rfl
  generalize (l.map fun x => Value.int .u8 (x.toNat : Int)).toArray ++ Array.replicate k (Value.int .u8 0) ++ Array.replicate (grownCap w (l.length + k) c e - (l.length + k)) (Value.int .u8 0) = A at *
  refine ⟨_, _, _, hrun, ?_, ⟨rfl, rfl, rfl, by simp, fun b hb _ => (by first | exact heap_alloc_old w.drew _ hb | exact heap_alloc_old w.drew _ _ hb)⟩, .inr (Nat.le_refl _)⟩
  have hat : (w.drew.alloc (.cells A e)).heap[w.heap.size]? = some (.cells A e) := heap_alloc_new w.drew _
  have hcells : ∀ j, (w.drew.alloc (.cells A e)).cell? ⟨w.heap.size, j, none⟩ = A[j]? := fun j => by
   unfold World.cell?
   rw [show (w.drew.alloc (.cells A e)).heap[(⟨w.heap.size, j, none⟩ : Addr).block]? = _ from hat]; rfl
  have hfree : ∀ j, (w.drew.alloc (.cells A e)).frozen? ⟨w.heap.size, j, none⟩ = false := fun j => by
   unfold World.frozen?
   rw [show (w.drew.alloc (.cells A e)).heap[(⟨w.heap.size, j, none⟩ : Addr).block]? = _ from hat]
   simp
  refine ⟨⟨by simp, fun j hj => by rw [hcells]; exact hAj j hj, fun j _ => hfree j⟩, by simp; omega, fun j hj => ?_, fun j _ => hfree j⟩
  rw [hcells, Array.getElem?_eq_getElem (by omega)]; rfl
def laidL (s : List UInt8) (o : Nat) (t : List UInt8) : List UInt8 := if t = [] then s else overB (s ++ List.replicate (o + t.length - s.length) 0) o t
theorem copy_over {P : Program} (dT sT ty e : TypeId) (hu : P.underlying dT = some (.slice e)) (hz : ∀ w, (Go.sizeOf e).run P w = .ok 1 w) {g : Nat} {l : List UInt8} {c : Nat} {w : World} (h : RowC g l c w) (o : Nat) (t : List UInt8) (ho : o ≤ l.length) (hc : o + t.length ≤ c) (dl dc : Nat) (hdl : t.length ≤ dl) :
 (Builtin.copy_ #[dT, sT] ty #[.slice (some ⟨g, o, none⟩) dl dc, .string (S t)]).run P w = .ok (goInt (S t).size) (w.setCells g o (t.map fun x => Value.int .u8 (x.toNat : Int))) := by
 have hl : (S t).data.toList = t := by simp [S]
 have hs : (S t).size = t.length := S_size t
 have := Go.run_copy_string (P := P) w dT sT ty e g o dl dc (S t) hu hz (by omega) (fun j hj => h.there _ (by omega)) (fun j hj => h.free _ (by omega))
 rw [hl] at this
 exact this
theorem S_toList (l : List UInt8) : (S l).toList = l := by rw [ByteArray.toList_eq, S_list]
set_option maxHeartbeats 1600000 in
theorem laid_any (s : List UInt8) (o : Nat) (t : List UInt8) (hs : s.length ≤ 1099511627776) (ho : o ≤ 1099511627776) (ht : t.length ≤ 1099511627776) (w : World) :
 Calls Tryz.prog 238 #[.string (S s), .int .i64 (o : Int), .string (S t)] w fun e w' => e = .returned (.string (S (laidL s o t))) ∧ Below w.heap.size w w' := by
 have hsz := S_size
 have htl := S_toList
 by_cases h0 : t = []
 ·
  subst h0
  have hl : Hid (laidL s o [] = s) := if_pos rfl
  go_enter Tryz.func238, Tryz.ntmps238
  go_wp2_with fail
  go_ret
  rw [hl.out]
  exact ⟨rfl, Below.refl _ _⟩
 have HL : Hid (laidL s o t = overB (s ++ List.replicate (o + t.length - s.length) 0) o t) := if_neg h0
 have hte : t.isEmpty = false := by cases t with
  | nil => exact absurd rfl h0
  | cons _ _ => rfl
 have htp : 0 < t.length := List.length_pos_iff.2 h0
 obtain ⟨c, w1, hconv, hb1, hr1⟩ := conv_bytes (P := Tryz.prog) w 9 223 5 s Tryz.underlying9 Tryz.underlying223 Tryz.underlying5
 have HR1 := Lib.hid hr1
 have HB1 := Lib.hid hb1
 clear hr1 hb1 h0
 go_enter Tryz.func238, Tryz.ntmps238
 go_upto_region 5 with fail
 clear hconv
 generalize hgw : w.heap.size = g at *
 have HGW : Hid (w.heap.size = g) := hgw
 clear hgw
 obtain ⟨i0, hi0, hz0, hz1, hz2⟩ : ∃ i, Tryz.prog.info? 5 = some i ∧ i.zero = some (.int .u8 0) ∧ i.size = 1 ∧ i.bytes = 1 := by
  have := (show (Tryz.prog.info? 5).map (fun i => (i.zero, i.size, i.bytes)) = some (some (.int .u8 0), 1, 1) by kernel_rfl)
  cases hh : Tryz.prog.info? 5 with
  | none => rw [hh] at this; cases this
  | some i => rw [hh] at this; have h2 := Option.some.inj this; exact ⟨i, rfl, congrArg (·.1) h2, congrArg (·.2.1) h2, congrArg (·.2.2) h2⟩
 have HSZ : Hid (∀ w, (Go.sizeOf 5).run Tryz.prog w = .ok 1 w) := fun w => by simp [sizeOf, typeInfo, hi0, hz1]
 by_cases hgr : s.length < o + t.length
 ·
  have hkk : (o : Int) + (t.length : Int) - (s.length : Int) = ((o + t.length - s.length : Nat) : Int) := by omega
  obtain ⟨g2, c2, w2, hap, hr2, hm2, hg2⟩ := append_zeros (P := Tryz.prog) w1 223 3 223 5 i0 Tryz.underlying223 Tryz.underlying3 hi0 hz0 hz1 hz2 HR1.out (o + t.length - s.length) (by omega) (by omega)
  rw [hkk]
  have hln : s.length + (o + t.length - s.length) = o + t.length := by omega
  rw [hln] at hap
  have HAP := Lib.hid hap
  have HR2 := Lib.hid hr2
  have HM2 := Lib.hid hm2
  have HG2 := Lib.hid hg2
  clear hap hr2 hm2 hg2 hkk hln hi0 hz0 hz1 hz2
  have hk0 : 0 < o + t.length - s.length := by omega
  have hco : ¬ c2 = o := by have := HR2.out.le; simp only [List.length_append, List.length_replicate] at this; omega
  have hlen : (s ++ List.replicate (o + t.length - s.length) (0 : UInt8)).length = o + t.length := by simp; omega
  have hcp := copy_over (P := Tryz.prog) 223 9 3 5 Tryz.underlying223 HSZ.out HR2.out o t (by omega) (by have := HR2.out.le; omega) t.length (c2 - o) (Nat.le_refl _)
  obtain ⟨hr3, hm3⟩ := HR2.out.puts t _ o _ (by omega) (by have := HR2.out.le; omega)
  have HR3 := Lib.hid hr3
  have HM3 := Lib.hid hm3
  have HCP := Lib.hid hcp
  clear hr3 hm3 hcp
  generalize o + t.length - s.length = k at *
  generalize hw3 : w2.setCells g2 o (t.map fun x => Value.int .u8 (x.toNat : Int)) = w3 at *
  have hcv : (convert 223 9 (.slice (some ⟨g2, 0, none⟩) (o + t.length) c2)).run Tryz.prog w3 = .ok (.string ⟨(overB (s ++ List.replicate k 0) o t).toArray⟩) w3 :=
   row_string HR3.out.row 223 5 9 Tryz.underlying223 Tryz.underlying5 Tryz.underlying9 c2 (o + t.length) (by rw [over_length _ _ _ (by omega)]; omega)
  go_wp2_with (at_builtin; refine Lib.wpList_append_run _ rfl (.tmp 23) (.tmp 24) 223 3 rfl _ _ rfl rfl _ _ HAP.out ?_)
  rw [HCP.out]
  go_wp2_with fail
  go_ret
  rw [HL.out]
  have h2 := HM2.out.to_below g (by have := HB1.out.size; have := HR1.out.row.lt; omega) (fun k hk => by omega)
  have h3 := HM3.out.to_below g (by have := h2.size; have := HR1.out.row.lt; omega) (fun k hk => by have := HG2.out; have := HR1.out.row.lt; omega)
  rw [HGW.out]
  exact ⟨rfl, (HB1.out.trans h2).trans h3⟩
 ·
  have hk0 : o + t.length - s.length = 0 := by omega
  rw [hk0, List.replicate_zero, List.append_nil] at HL
  have hng : ¬ (0 < (o : Int) + (t.length : Int) - (s.length : Int)) := by omega
  have hco : ¬ c = o := by have := HR1.out.le; omega
  have hcp := copy_over (P := Tryz.prog) 223 9 3 5 Tryz.underlying223 HSZ.out HR1.out o t (by omega) (by have := HR1.out.le; omega) (s.length - o) (c - o) (by omega)
  obtain ⟨hr3, hm3⟩ := HR1.out.puts t _ o _ (by omega) (by have := HR1.out.le; omega)
  have HR3 := Lib.hid hr3
  have HM3 := Lib.hid hm3
  have HCP := Lib.hid hcp
  clear hr3 hm3 hcp hi0 hz0 hz1 hz2
  generalize hw3 : w1.setCells g o (t.map fun x => Value.int .u8 (x.toNat : Int)) = w3 at *
  have hcv : (convert 223 9 (.slice (some ⟨g, 0, none⟩) s.length c)).run Tryz.prog w3 = .ok (.string ⟨(overB s o t).toArray⟩) w3 :=
   row_string HR3.out.row 223 5 9 Tryz.underlying223 Tryz.underlying5 Tryz.underlying9 c s.length (by rw [over_length _ _ _ (by omega)]; omega)
  have hos : o ≤ s.length := by omega
  go_wp2_with fail
  rw [HCP.out]
  go_wp2_with fail
  go_ret
  rw [HL.out]
  have h3 := HM3.out.to_below g (by have := HR1.out.row.lt; omega) (fun k hk => by omega)
  rw [HGW.out]
  exact ⟨rfl, HB1.out.trans h3⟩
end Go.Proofs.YtjjkhbfimpgplaaGreatDoor.DskW
namespace Go.Proofs.YtjjkhbfimpgplaaGreatDoor.DskW
open Go.RowKit Go.MapKept Go.ChangeMaps OctMath
set_option linter.unusedVariables false
set_option linter.unusedSimpArgs false
set_option maxRecDepth 100000
theorem find_none {D : DiskD} {n : List UInt8} (h : D.find n = none) : ∀ p ∈ D.files, p.1 ≠ n := by
 unfold DiskD.find at h
 rw [Option.map_eq_none_iff, List.find?_eq_none] at h
 intro p hp e
 exact h p hp (by simp [e])
theorem find_some {D : DiskD} {n : List UInt8} {f : FileD} (h : D.find n = some f) : (n, f) ∈ D.files := by
 unfold DiskD.find at h
 cases hf : D.files.find? (fun p => p.1 == n) with
 | none => rw [hf] at h; cases h
 | some p =>
   rw [hf] at h
   have h1 := List.mem_of_find?_eq_some hf
   have h2 := List.find?_some hf
   have h3 : p.2 = f := Option.some.inj h
   have h4 : p.1 = n := by simpa using h2
   rw [← h3, ← h4]; exact h1
theorem insert_file {base : Nat} {w : World} {D : DiskD} (h : DiskAt base w D) (n : List UInt8) (hn : D.find n = none) (b : Nat) (hb : w.heap[b]? = some (.cells #[.string (S []), .string (S [])] 302 (0, 0))) (hfo : ¬ D.foot b) (hba : base ≤ b) :
 ∃ w', (Instr.mapUpdate 83 (.map (some D.mB)) (.string (S n)) (.pointer (some ⟨b, 0, none⟩))).run Tryz.prog w = .ok () w' ∧ DiskAt base w' { D with files := D.files ++ [(n, ⟨b, [], []⟩)] } ∧ Mod (fun k => k = D.mB) w w' := by
 obtain ⟨es, c, hm, hst, hmap⟩ := h.map
 have hu := Tryz.underlying83
 have hd := Tryz.underlying9
 have hks : ∀ x ∈ es.toList, IsKey .string x.key := fun x hx => by
  obtain ⟨p, _, hk, _⟩ := entry_file hmap hx
  rw [hk]; trivial
 have hk : IsKey .string (.string (S n)) := trivial
 have hne : ∀ x ∈ es.toList, x.key ≠ .string (S n) := fun x hx e => by
  obtain ⟨p, hp, hk, _⟩ := entry_file hmap hx
  rw [hk] at e
  exact find_none hn p hp (S_inj (by cases e; rfl))
 rcases findNow_spec hk es.toList 0 hks with ⟨h1, h2⟩ | ⟨j, e, h1, h2, h3⟩
 ·
  have hlt : D.mB < w.heap.size := (Array.getElem?_eq_some_iff.1 hm).1
  have hrun : (Instr.mapUpdate 83 (.map (some D.mB)) (.string (S n)) (.pointer (some ⟨b, 0, none⟩))).run Tryz.prog w = .ok () { w with heap := w.heap.setIfInBounds D.mB (.map (es.push ⟨.string (S n), .pointer (some ⟨b, 0, none⟩), c⟩) (c + 1)) } := by
   simp [Instr.mapUpdate, run_underlying hu, Go.MapKept.run_getObj_map hm, Go.MapKept.run_checkKey hd hk, Go.MapKept.run_findKey hd h1, Go.MapKept.run_setObj_map _ hm, Result.andThen]
  have hmod : Mod (fun k => k = D.mB) w { w with heap := w.heap.setIfInBounds D.mB (.map (es.push ⟨.string (S n), .pointer (some ⟨b, 0, none⟩), c⟩) (c + 1)) } := ⟨rfl, rfl, rfl, by simp, fun k _ hk => by
   show (w.heap.setIfInBounds D.mB _)[k]? = _
   exact Array.getElem?_setIfInBounds_ne (fun e => hk e.symm)⟩
  refine ⟨_, hrun, ?_, hmod⟩
  have key : ∀ k, k < w.heap.size → k ≠ D.mB → (w.heap.setIfInBounds D.mB (Obj.map (es.push ⟨.string (S n), .pointer (some ⟨b, 0, none⟩), c⟩) (c + 1)))[k]? = w.heap[k]? := fun k _ hk => Array.getElem?_setIfInBounds_ne (fun e => hk e.symm)
  have hblt : b < w.heap.size := (Array.getElem?_eq_some_iff.1 hb).1
  have hbm : b ≠ D.mB := fun e => hfo (.inr (.inl e))
  have hbd : b ≠ D.blk := fun e => hfo (.inl e)
  have hbf : ∀ p ∈ D.files, b ≠ p.2.blk := fun p hp e => hfo (.inr (.inr (.inl ⟨p, hp, e⟩)))
  have hbw : ∀ k, D.wv.ownBlock = some k → k ≠ b := fun k hk e => hfo (.inr (.inr (.inr (e ▸ hk))))
  refine ⟨?_, ⟨es.push ⟨.string (S n), .pointer (some ⟨b, 0, none⟩), c⟩, c + 1, ?_, stamped_push hst h2, ?_⟩, fun p hp => ?_, ?_, ?_, ?_, ?_, ?_, h.ints, ?_, fun x hx => by obtain ⟨p, hp, e⟩ := h.waitf x hx; exact ⟨p, List.mem_append_left _ hp, e⟩⟩
  · exact (key _ (h.lt (.inl rfl)) h.apart.1).trans h.head
  · show (w.heap.setIfInBounds D.mB _)[D.mB]? = _
    simp [hlt]
  · rw [Array.toList_push, List.map_append, hmap, List.map_append]; rfl
  · rcases List.mem_append.1 hp with hp | hp
    · exact (key _ (h.lt (.inr (.inr (.inl ⟨p, hp, rfl⟩)))) (h.apart.2.1 p hp).2).trans (h.file p hp)
    · rw [List.mem_singleton] at hp; subst hp
      exact (key b hblt hbm).trans hb
  ·
   refine ⟨h.row.1, ?_⟩
   rcases h.row.2 with h0 | ⟨g, cap, cur, e, hbs, hg, r⟩
   · exact .inl h0
   · have hown : D.wv.ownBlock = some g := by rw [e]; rfl
     exact .inr ⟨g, cap, cur, e, hbs, (key g (h.lt (.inr (.inr (.inr hown)))) (h.apart.2.2 g hown).2.1).trans hg, r⟩
  ·
   show ((D.files ++ [(n, (⟨b, [], []⟩ : FileD))]).map (·.1)).Nodup
   rw [List.map_append, List.nodup_append]
   refine ⟨h.names, by simp, fun a ha c hc e => ?_⟩
   simp only [List.map_cons, List.map_nil, List.mem_singleton] at hc
   subst hc; subst e
   obtain ⟨p, hp, hpe⟩ := List.mem_map.1 ha
   exact find_none hn p hp hpe
  ·
   show ((D.files ++ [(n, (⟨b, [], []⟩ : FileD))]).map (·.2.blk)).Nodup
   rw [List.map_append, List.nodup_append]
   refine ⟨h.blocks, by simp, fun a ha c hc e => ?_⟩
   simp only [List.map_cons, List.map_nil, List.mem_singleton] at hc
   subst hc; subst e
   obtain ⟨p, hp, hpe⟩ := List.mem_map.1 ha
   exact hbf p hp hpe.symm
  ·
   refine ⟨h.apart.1, fun p hp => ?_, fun k hk => ⟨(h.apart.2.2 k hk).1, (h.apart.2.2 k hk).2.1, fun p hp => ?_⟩⟩
   · rcases List.mem_append.1 hp with hp | hp
     · exact h.apart.2.1 p hp
     · rw [List.mem_singleton] at hp; subst hp; exact ⟨hbd, hbm⟩
   · rcases List.mem_append.1 hp with hp | hp
     · exact (h.apart.2.2 k hk).2.2 p hp
     · rw [List.mem_singleton] at hp; subst hp; exact hbw k hk
  · refine ⟨h.above.1, h.above.2.1, fun p hp => ?_⟩
    rcases List.mem_append.1 hp with hp | hp
    · exact h.above.2.2 p hp
    · rw [List.mem_singleton] at hp; subst hp; exact hba
  · have : sizeL (D.files ++ [(n, (⟨b, [], []⟩ : FileD))]) = sizeL D.files := by unfold sizeL; simp
    show ((sizeL (D.files ++ [(n, (⟨b, [], []⟩ : FileD))]) : Nat) : Int) ≤ D.cap
    rw [this]; exact h.fits
 · exact absurd h3 (hne e (List.mem_of_getElem? h2))
def DiskD.createE (D : DiskD) (n : List UInt8) : Int := if D.down then 8 else if (D.find n).isSome then 10 else D.done
def DiskD.create (D : DiskD) (n : List UInt8) (b : Nat) : DiskD := if D.down = true ∨ (D.find n).isSome = true then D else if D.left = 0 then D.burn else { D.burn with files := D.files ++ [(n, ⟨b, [], []⟩)] }
theorem bars_nil (D : DiskD) : D.bars [] = if D.down then 8 else 0 := by unfold DiskD.bars; rfl
theorem burn_foot (D : DiskD) : D.burn.foot = D.foot ∧ D.burn.blk = D.blk ∧ D.burn.mB = D.mB ∧ D.burn.files = D.files ∧ D.burn.wv = D.wv ∧ D.burn.waits = D.waits ∧ D.burn.cap = D.cap := by
 unfold DiskD.burn
 split
 · exact ⟨rfl, rfl, rfl, rfl, rfl, rfl, rfl⟩
 · split
   iterate 2
    · exact ⟨rfl, rfl, rfl, rfl, rfl, rfl, rfl⟩
theorem burn_find (D : DiskD) (n : List UInt8) : D.burn.find n = D.find n := by unfold DiskD.find; rw [(burn_foot D).2.2.2.1]
theorem Mod.below_foot {D : DiskD} {w w' : World} (h : Mod (fun k => k = D.blk) w w') : Mod D.foot w w' := h.mono (fun k _ hk => .inl hk)
set_option maxHeartbeats 1600000 in
theorem create_any {base : Nat} {D : DiskD} (n : List UInt8) (w : World) (h : DiskAt base w D) (hbase : base ≤ w.heap.size) :
 Calls Tryz.prog 183 #[.pointer (some ⟨D.blk, 0, none⟩), .string (S n)] w fun e w' => ∃ b, w.heap.size ≤ b ∧ e = .returned (.int .i64 (D.createE n)) ∧ DiskAt base w' (D.create n b) ∧ Mod D.foot w w' := by
 have HBA := Lib.hid (bars_any none 0 [] (by simp) w h (fun i hi => absurd hi (Nat.not_lt_zero _)))
 rw [bars_nil] at HBA
 have HE : Hid (D.createE n = if D.down then 8 else if (D.find n).isSome then 10 else D.done) := rfl
 have HC : Hid (∀ b, D.create n b = if D.down = true ∨ (D.find n).isSome = true then D else if D.left = 0 then D.burn else { D.burn with files := D.files ++ [(n, ⟨b, [], []⟩)] }) := fun _ => rfl
 have c2 : w.cell? ⟨D.blk, 2, none⟩ = some (.map (some D.mB)) := h.cell 2 _ rfl
 have hlk := lookup_file h n
 have HDN := Lib.hid (done_any w h)
 have HD := Lib.hid h
 clear h
 go_enter Tryz.func183, Tryz.ntmps183
 go_wp2_with fail
 refine HBA.out.mono ?_
 rintro e w1 ⟨rfl, rfl⟩
 clear HBA
 cases hdn : D.down with
 | true =>
   rw [hdn] at HE HC
   go_wp2_with fail
   go_ret
   exact ⟨w1.heap.size, Nat.le_refl _, by rw [HE.out]; rfl, by rw [HC.out, if_pos (by simp)]; exact HD.out, Mod.refl _ _⟩
 | false =>
   rw [hdn] at HE HC
   clear hdn
   cases hf : D.find n with
   | some f =>
     rw [hf] at HE HC hlk
     unfold fileV at hlk
     simp only [Option.map_some] at hlk
     clear hf
     go_wp2_with fail
     go_ret
     exact ⟨w1.heap.size, Nat.le_refl _, by rw [HE.out]; rfl, by rw [HC.out, if_pos (by simp)]; exact HD.out, Mod.refl _ _⟩
   | none =>
     have HF := Lib.hid hf
     rw [hf] at HE HC hlk
     unfold fileV at hlk
     simp only [Option.map_none] at hlk
     clear hf
     go_wp2_with fail
     refine HDN.out.mono ?_
     rintro e w2 ⟨rfl, hd2, hm2⟩
     have HD2 := Lib.hid hd2
     have HM2 := Lib.hid hm2
     clear hd2 hm2 HDN c2 hlk
     by_cases h0 : D.left = 0
     · have hdone : D.done = 8 := if_pos h0
       have HDO := Lib.hid hdone
       rw [hdone]
       clear hdone
       go_wp2_with fail
       go_ret
       exact ⟨w1.heap.size, Nat.le_refl _, by rw [HE.out]; simp [HDO.out], by rw [HC.out, if_neg (by simp), if_pos h0]; exact HD2.out, Mod.below_foot HM2.out⟩
     ·
      have hdone : D.done = 0 := if_neg h0
      have HDO := Lib.hid hdone
      rw [hdone]
      clear hdone
      have c2 : w2.cell? ⟨D.blk, 2, none⟩ = some (.map (some D.mB)) := by
       have : w2.cell? ⟨D.burn.blk, 2, none⟩ = some (.map (some D.burn.mB)) := HD2.out.cell 2 _ rfl
       rw [(burn_foot D).2.1, (burn_foot D).2.2.1] at this; exact this
      have hbl : Below w2.heap.size w2 (w2.alloc (.cells #[.string ⟨#[]⟩, .string ⟨#[]⟩] 302)) := (Below.refl _ _).alloc (Nat.le_refl _) _
      have hle : base ≤ w2.heap.size := Nat.le_trans hbase HM2.out.size
      obtain ⟨w4, hins, hd4, hm4⟩ := insert_file (HD2.out.below hbl) n (by rw [burn_find]; exact HF.out) w2.heap.size (heap_alloc_new _ _) (fun hf => by have := HD2.out.lt hf; omega) hle
      rw [(burn_foot D).2.2.1] at hins hm4
      rw [(burn_foot D).2.2.2.1] at hd4
      have HD4 := Lib.hid hd4
      have HM4 : Hid (Mod D.foot w1 w4) := ((Mod.below_foot HM2.out).trans (Mod.of_below hbl)).trans (hm4.mono (fun k _ hk => .inr (.inl hk)))
      have HSZ : Hid (w1.heap.size ≤ w2.heap.size) := HM2.out.size
      clear hd4 hm4 hbl hle
      go_wp2_with fail
      go_ret
      exact ⟨w2.heap.size, HSZ.out, by rw [HE.out]; simp [HDO.out], by rw [HC.out, if_neg (by simp), if_neg h0]; exact HD4.out, HM4.out⟩
def nowF (f : Option FileD) : List UInt8 := match f with | some f => f.now | none => []
def DiskD.bytes (D : DiskD) (n : List UInt8) : List UInt8 := nowF (D.find n)
def DiskD.allT (D : DiskD) (n : List UInt8) : List UInt8 := if D.bars [n] = 0 then D.bytes n else []
theorem bars_one (D : DiskD) (n : List UInt8) : D.bars [n] = if D.down then 8 else if (D.find n).isSome then 0 else 9 := by unfold DiskD.bars; simp
theorem DiskAt.now {base : Nat} {w : World} {D : DiskD} (h : DiskAt base w D) {n : List UInt8} {f : FileD} (hf : D.find n = some f) : w.cell? ⟨f.blk, 1, none⟩ = some (.string (S f.now)) := by
 have := h.file _ (find_some hf)
 unfold World.cell?; rw [show w.heap[(⟨f.blk, 1, none⟩ : Addr).block]? = _ from this]; rfl
theorem row_one (w : World) (n : List UInt8) (ty : TypeId) : Row1 (w.alloc (.cells #[.string (S n)] ty)) (some ⟨w.heap.size, 0, none⟩) ([n].map fun x => .string (S x)) := by
 intro i hi
 have : i = 0 := by simpa using hi
 subst this
 exact ⟨_, _, rfl, by rw [World.cell?_alloc_new]; rfl⟩
theorem all_any {base : Nat} {D : DiskD} (n : List UInt8) (w : World) (h : DiskAt base w D) :
 Calls Tryz.prog 137 #[.pointer (some ⟨D.blk, 0, none⟩), .string (S n)] w fun e w' => e = .returned (.tuple #[.string (S (D.allT n)), .int .i64 (D.bars [n])]) ∧ Below w.heap.size w w' := by
 have HB : Hid (Below w.heap.size w (w.alloc (.cells #[.string (S n)] 9))) := (Below.refl _ _).alloc (Nat.le_refl _) _
 have hd := h.below HB.out
 have HBA := Lib.hid (bars_any (some ⟨w.heap.size, 0, none⟩) 1 [n] (by simp) _ hd (row_one w n _))
 have hlk := lookup_file hd n
 have c2 : (w.alloc (.cells #[.string (S n)] 9)).cell? ⟨D.blk, 2, none⟩ = some (.map (some D.mB)) := hd.cell 2 _ rfl
 have HD := Lib.hid hd
 have HT : Hid (D.allT n = if D.bars [n] = 0 then D.bytes n else []) := rfl
 have HY : Hid (D.bytes n = nowF (D.find n)) := rfl
 rw [bars_one] at HBA HT
 have HO := Lib.hid (bars_one D n)
 clear h hd
 go_enter Tryz.func137, Tryz.ntmps137
 go_wp2_with fail
 refine HBA.out.mono ?_
 rintro e w1 ⟨rfl, rfl⟩
 clear HBA
 cases hdn : D.down with
 | true =>
   rw [hdn] at HT HO
   go_wp2_with fail
   go_ret2
   rw [HT.out, HO.out]
   exact ⟨rfl, HB.out⟩
 | false =>
   rw [hdn] at HT HO
   clear hdn
   cases hf : D.find n with
   | none =>
     rw [hf] at HT HO
     go_wp2_with fail
     go_ret2
     rw [HT.out, HO.out]
     exact ⟨rfl, HB.out⟩
   | some f =>
     have hnow := HD.out.now hf
     rw [hf] at HT HO hlk HY
     unfold fileV at hlk
     simp only [Option.map_some] at hlk
     clear hf
     go_wp2_with fail
     go_ret2
     rw [HT.out, HO.out, HY.out]
     exact ⟨rfl, HB.out⟩
def DiskD.readOk (D : DiskD) (nm : List UInt8) (o n : Int) : Bool := decide (0 ≤ o) && decide (0 ≤ n) && decide (o + n ≤ ((D.bytes nm).length : Int))
def DiskD.readE (D : DiskD) (nm : List UInt8) (o n : Int) : Int := if D.bars [nm] = 0 then (if D.readOk nm o n then 0 else 2) else D.bars [nm]
def DiskD.readT (D : DiskD) (nm : List UInt8) (o n : Int) : List UInt8 := if D.bars [nm] = 0 ∧ D.readOk nm o n = true then ((D.bytes nm).drop o.toNat).take n.toNat else []
theorem sizeL_mem {l : List (List UInt8 × FileD)} {p : List UInt8 × FileD} (h : p ∈ l) : p.2.now.length ≤ sizeL l := by
 unfold sizeL
 induction l with
 | nil => cases h
 | cons x l ih =>
   simp only [List.map_cons, List.sum_cons]
   rcases List.mem_cons.1 h with rfl | h
   · omega
   · have := ih h; omega
theorem DiskAt.small {base : Nat} {w : World} {D : DiskD} (h : DiskAt base w D) (n : List UInt8) : (D.bytes n).length ≤ 16777216 := by
 unfold DiskD.bytes
 cases hf : D.find n with
 | none => simp [nowF]
 | some f =>
   have h1 := sizeL_mem (find_some hf)
   have h2 := h.fits
   have h3 := h.ints.2.2.2
   have h4 : D.size = sizeL D.files := rfl
   show f.now.length ≤ _
   simp only at h1
   omega
theorem S_extract (l : List UInt8) (o n : Nat) : (S l).extract o (o + n) = S ((l.drop o).take n) := by
 have h : ((S l).extract o (o + n)).data.toList = (l.drop o).take n := by simp [S, List.extract]
 have e : ∀ a : ByteArray, a = S a.data.toList := fun a => by cases a; simp [S]
 rw [e ((S l).extract o (o + n)), h]
set_option maxHeartbeats 1600000 in
theorem read_any {base : Nat} {D : DiskD} (nm : List UInt8) (o n : Int) (ho : -9223372036854775808 ≤ o ∧ o ≤ 9223372036854775807) (hn : -9223372036854775808 ≤ n ∧ n ≤ 9223372036854775807) (w : World) (h : DiskAt base w D) :
 Calls Tryz.prog 75 #[.pointer (some ⟨D.blk, 0, none⟩), .string (S nm), .int .i64 o, .int .i64 n] w fun e w' => e = .returned (.tuple #[.string (S (D.readT nm o n)), .int .i64 (D.readE nm o n)]) ∧ Below w.heap.size w w' := by
 have HA := Lib.hid (all_any nm w h)
 have HE : Hid (D.readE nm o n = if D.bars [nm] = 0 then (if D.readOk nm o n then 0 else 2) else D.bars [nm]) := rfl
 have HT : Hid (D.readT nm o n = if D.bars [nm] = 0 ∧ D.readOk nm o n = true then ((D.bytes nm).drop o.toNat).take n.toNat else []) := rfl
 have HO : Hid (D.readOk nm o n = (decide (0 ≤ o) && decide (0 ≤ n) && decide (o + n ≤ ((D.bytes nm).length : Int)))) := rfl
 have HAT : Hid (D.allT nm = if D.bars [nm] = 0 then D.bytes nm else []) := rfl
 have hsm := h.small nm
 have hsz := S_size
 have htl := S_toList
 have hbb : D.bars [nm] = 0 ∨ D.bars [nm] = 8 ∨ D.bars [nm] = 9 := by
  rw [bars_one]; split
  · exact .inr (.inl rfl)
  · split
    · exact .inl rfl
    · exact .inr (.inr rfl)
 clear h
 go_enter Tryz.func75, Tryz.ntmps75
 go_wp2_with fail
 refine HA.out.mono ?_
 rintro e w1 ⟨rfl, hb⟩
 have HB := Lib.hid hb
 clear hb HA
 generalize D.bars [nm] = bz at *
 rcases hbb with rfl | rfl | rfl
 ·
  rw [if_pos rfl] at HAT HE
  rw [HAT.out]
  clear HAT
  generalize D.bytes nm = l at *
  generalize D.readOk nm o n = ok at *
  by_cases h1 : o < 0
  ·
   have hok : ok = false := by rw [HO.out, decide_eq_false (show ¬ 0 ≤ o by omega)]; rfl
   subst hok
   have d1 : decide (o < 0) = true := decide_eq_true h1
   go_wp2_with fail
   go_ret2
   rw [HT.out, HE.out]
   exact ⟨rfl, HB.out⟩
  have d1 : decide (o < 0) = false := decide_eq_false h1
  by_cases h2 : n < 0
  ·
   have hok : ok = false := by rw [HO.out, decide_eq_false (show ¬ 0 ≤ n by omega), Bool.and_false]; rfl
   subst hok
   have d2 : decide (n < 0) = true := decide_eq_true h2
   go_wp2_with fail
   go_ret2
   rw [HT.out, HE.out]
   exact ⟨rfl, HB.out⟩
  have d2 : decide (n < 0) = false := decide_eq_false h2
  by_cases h3 : (l.length : Int) < o
  ·
   have hok : ok = false := by rw [HO.out, decide_eq_false (show ¬ o + n ≤ (l.length : Int) by omega), Bool.and_false]
   subst hok
   have d3 : decide ((l.length : Int) < o) = true := decide_eq_true h3
   go_wp2_with fail
   go_ret2
   rw [HT.out, HE.out]
   exact ⟨rfl, HB.out⟩
  have d3 : decide ((l.length : Int) < o) = false := decide_eq_false h3
  by_cases h4 : (l.length : Int) - o < n
  ·
   have hok : ok = false := by rw [HO.out, decide_eq_false (show ¬ o + n ≤ (l.length : Int) by omega), Bool.and_false]
   subst hok
   have d4 : decide ((l.length : Int) - o < n) = true := decide_eq_true h4
   go_wp2_with fail
   go_ret2
   rw [HT.out, HE.out]
   exact ⟨rfl, HB.out⟩
  have d4 : decide ((l.length : Int) - o < n) = false := decide_eq_false h4
  have hok : ok = true := by rw [HO.out, decide_eq_true (show 0 ≤ o by omega), decide_eq_true (show 0 ≤ n by omega), decide_eq_true (show o + n ≤ (l.length : Int) by omega)]; rfl
  subst hok
  obtain ⟨o, rfl⟩ := Int.eq_ofNat_of_zero_le (show 0 ≤ o by omega)
  obtain ⟨n, rfl⟩ := Int.eq_ofNat_of_zero_le (show 0 ≤ n by omega)
  rw [if_pos ⟨rfl, rfl⟩] at HT
  go_wp2_with fail
  go_ret2
  rw [HT.out, HE.out]
  refine ⟨?_, HB.out⟩
  show Ending.returned (.tuple #[.string ((S l).extract o (o + n)), .int .i64 0]) = _
  rw [S_extract, Int.toNat_natCast, Int.toNat_natCast]; rfl
 iterate 2
  · go_wp2_with fail
    go_ret2
    rw [HT.out, HE.out]
    exact ⟨rfl, HB.out⟩
end Go.Proofs.YtjjkhbfimpgplaaGreatDoor.DskW
