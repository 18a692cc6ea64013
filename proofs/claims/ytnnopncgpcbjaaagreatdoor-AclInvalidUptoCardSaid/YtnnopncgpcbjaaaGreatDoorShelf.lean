/-
 DERIVED: THE SHELF's CONTRACTS AT THIS DUMP, IN PLAIN WORDS (tools/lay-plain.mjs out of 'TryzShelf.lean', which tools/lay-shelf.mjs wrote): THE SAME DECLARATIONS UNDER THE SAME NAMES: 'import', 'namespace', 'open', 'def', 'theorem' AND NOTHING ELSE: no command of the shelf's: FOR A HAND-IN. Each laying: the table of numbers ('.._ren') and one theorem, a field a fact of the dump's own or the kernel's comparison; each contract: ONE APPLICATION.
-/
import Derived.Shelf.Strings.SlTrimAscii
import Derived.Shelf.Unicode.ValidAny
import Derived.Shelf.Strings.Builder1
import Derived.Shelf.Strings.Builder2
import Derived.Shelf.Strings.OnBuilder
import Derived.Shelf.Strings.Trim
import Derived.Shelf.Small.Utf8
import Derived.Shelf.Small.Bits
import Derived.Shelf.Small.Strs
import Derived.Shelf.Small.Wraps
import Derived.Shelf.Utf8.RuneCount
import Derived.Shelf.Strconv.Itoa0
import Derived.Shelf.LaysM
import Derived.Shelf.Strconv.Clone
import Derived.Shelf.Strings.Search1
import Derived.Shelf.Strings.Search2
import Derived.Shelf.Strings.Search3
import Derived.Shelf.Strings.Cut
import Derived.Shelf.Strings.Count
import Derived.Shelf.Strings.Shaped
import Derived.Shelf.Strings.Prefix
import Derived.Shelf.Strings.Split
import Derived.Shelf.Strings.Replace
import Derived.Shelf.Strings.SplitShaped
import Derived.Shelf.Unicode.Decode
import Derived.Shelf.Strings.Runes
import Derived.Shelf.Strings.RuneCount
import Derived.Shelf.Strings.IndexAny
import Derived.Shelf.Strings.AsciiSet
import Derived.Shelf.Strings.IndexAnyAll
import Derived.Shelf.Strings.Explode
import Derived.Shelf.Unicode.DecodeSlow
import Derived.Shelf.Unicode.DecodeAny
import Derived.Shelf.Unicode.DecodeLast
import Derived.Ground.Names2Prog
import Derived.Shelf.Slices.Clone
import Derived.Shelf.Slices.Delete
import Derived.Shelf.Slices.Cells
import Derived.Shelf.Slices.Empties
import Derived.Ground.SlgnProg
import Derived.Shelf.SlicesE.Clone
import Derived.Test.YtnnopncgpcbjaaaGreatDoorProg
namespace Go.Proofs
open Go.Shelf
def Tryz.lays156_ren : Go.Shelf.Ren := ⟨fun | 156 => 141 | 165 => 239 | 166 => 240 | 169 => 241 | 240 => 312 | 241 => 313 | 276 => 373 | 277 => 374 | n => n, fun | 31 => 31 | 9 => 9 | 3 => 3 | 4 => 4 | 0 => 0 | 20 => 20 | 72 => 299 | 76 => 303 | 70 => 296 | 37 => 297 | 75 => 302 | 127 => 361 | 164 => 400 | 5 => 5 | 80 => 210 | n => n, fun | n => n⟩
theorem Tryz.lays156 : Go.Proofs.Lays.n156 Tryz.prog Tryz.lays156_ren := {
 mixed := by kernel_rfl
 f156 := Tryz.func141.trans (congrArg some (by kernel_rfl))
 f165 := Tryz.func239.trans (congrArg some (by kernel_rfl))
 f166 := Tryz.func240.trans (congrArg some (by kernel_rfl))
 f169 := Tryz.func241.trans (congrArg some (by kernel_rfl))
 f240 := Tryz.func312.trans (congrArg some (by kernel_rfl))
 f241 := Tryz.func313.trans (congrArg some (by kernel_rfl))
 f276 := Tryz.func373.trans (congrArg some (by kernel_rfl))
 f277 := Tryz.func374.trans (congrArg some (by kernel_rfl))
 t0 := Tryz.underlying0
 a0 := Tryz.isAgg0
 z0 := Tryz.sizeOf0
 v0 := Tryz.zeroValue0
 t3 := Tryz.underlying3
 a3 := Tryz.isAgg3
 z3 := Tryz.sizeOf3
 v3 := Tryz.zeroValue3
 t4 := Tryz.underlying4
 a4 := Tryz.isAgg4
 z4 := Tryz.sizeOf4
 v4 := Tryz.zeroValue4
 t9 := Tryz.underlying9
 a9 := Tryz.isAgg9
 z9 := Tryz.sizeOf9
 v9 := Tryz.zeroValue9
 t20 := Tryz.underlying20
 a20 := Tryz.isAgg20
 z20 := Tryz.sizeOf20
 v20 := Tryz.zeroValue20
 t31 := Tryz.underlying31
 a31 := Tryz.isAgg31
 z31 := Tryz.sizeOf31
 v31 := Tryz.zeroValue31
 t37 := Tryz.underlying297
 a37 := Tryz.isAgg297
 z37 := Tryz.sizeOf297
 v37 := Tryz.zeroValue297
 t70 := Tryz.underlying296
 a70 := Tryz.isAgg296
 z70 := Tryz.sizeOf296
 v70 := Tryz.zeroValue296
 t72 := Tryz.underlying299
 a72 := Tryz.isAgg299
 z72 := Tryz.sizeOf299
 v72 := Tryz.zeroValue299
 t75 := Tryz.underlying302
 a75 := Tryz.isAgg302
 z75 := Tryz.sizeOf302
 v75 := Tryz.zeroValue302
 t76 := Tryz.underlying303
 a76 := Tryz.isAgg303
 z76 := Tryz.sizeOf303
 v76 := Tryz.zeroValue303
 t127 := Tryz.underlying361
 a127 := Tryz.isAgg361
 z127 := Tryz.sizeOf361
 v127 := Tryz.zeroValue361
 t164 := Tryz.underlying400
 a164 := Tryz.isAgg400
 z164 := Tryz.sizeOf400
 v164 := Tryz.zeroValue400 }
theorem Tryz.Builder_Extra_156 : Builder.Extra Tryz.prog Tryz.lays156_ren := {
 sizeBuilder := by kernel_rfl
 liesBuilder := by kernel_rfl
 t5 := Tryz.underlying5
 a5 := Tryz.isAgg5
 z5 := Tryz.sizeOf5
 v5 := Tryz.zeroValue5
 infoByte := by kernel_rfl
 cellsByte := by kernel_rfl
 sizeByte := by kernel_rfl
 neB5 := by decide }
open Go.RowKit in
theorem Tryz.strings_Join_none (a : Option Addr) (c : Nat) (sep : ByteArray) (w : World) :
  Calls Tryz.prog 141 #[.slice a 0 c, .string sep] w fun e w' => e = .returned (.string ⟨#[]⟩) ∧ w' = w := Any.strings_Join_none Tryz.lays156 Tryz.Builder_Extra_156 a c sep w
open Go.RowKit in
theorem Tryz.strings_Join (bk o c : Nat) (xs : List ByteArray) (sep : ByteArray) (w : World) (hcells : ∀ (j : Nat) x, xs[j]? = some x → w.cell? ⟨bk, o + j, none⟩ = some (.string x)) (hbk : bk < w.heap.size) (hN : xs.length ≤ 140737488355328) (hcap : xs.length ≤ c) (hlen : (Lib.join (xs.map (·.data.toList)) sep.data.toList).length ≤ 140737488355328) :
  Calls Tryz.prog 141 #[.slice (some ⟨bk, o, none⟩) xs.length c, .string sep] w fun e w' => e = .returned (.string ⟨(Lib.join (xs.map (·.data.toList)) sep.data.toList).toArray⟩) ∧ Below w.heap.size w w' := Any.strings_Join Tryz.lays156 Tryz.Builder_Extra_156 bk o c xs sep w hcells hbk hN hcap hlen
def Tryz.lays160_ren : Go.Shelf.Ren := ⟨fun | 160 => 291 | 232 => 353 | 231 => 352 | 227 => 354 | 234 => 356 | 233 => 355 | 236 => 358 | 235 => 357 | 228 => 395 | 271 => 404 | 151 => 403 | 197 => 364 | 120 => 425 | 152 => 393 | 260 => 413 | 137 => 326 | 119 => 402 | 224 => 411 | 225 => 410 | 217 => 389 | 266 => 424 | n => n, fun | 9 => 9 | 4 => 4 | 3 => 3 | 5 => 5 | 117 => 388 | 116 => 387 | 0 => 0 | 124 => 391 | 21 => 21 | 105 => 398 | 46 => 367 | 119 => 433 | 139 => 436 | 138 => 435 | n => n, fun | 3 => 1 | 4 => 2 | n => n⟩
theorem Tryz.lays160 : Go.Proofs.Lays.n160 Tryz.prog Tryz.lays160_ren := {
 mixed := by kernel_rfl
 f119 := Tryz.func402.trans (congrArg some (by kernel_rfl))
 f120 := Tryz.func425.trans (congrArg some (by kernel_rfl))
 f137 := Tryz.func326.trans (congrArg some (by kernel_rfl))
 f151 := Tryz.func403.trans (congrArg some (by kernel_rfl))
 f152 := Tryz.func393.trans (congrArg some (by kernel_rfl))
 f160 := Tryz.func291.trans (congrArg some (by kernel_rfl))
 f197 := Tryz.func364.trans (congrArg some (by kernel_rfl))
 f217 := Tryz.func389.trans (congrArg some (by kernel_rfl))
 f224 := Tryz.func411.trans (congrArg some (by kernel_rfl))
 f225 := Tryz.func410.trans (congrArg some (by kernel_rfl))
 f227 := Tryz.func354.trans (congrArg some (by kernel_rfl))
 f228 := Tryz.func395.trans (congrArg some (by kernel_rfl))
 f231 := Tryz.func352.trans (congrArg some (by kernel_rfl))
 f232 := Tryz.func353.trans (congrArg some (by kernel_rfl))
 f233 := Tryz.func355.trans (congrArg some (by kernel_rfl))
 f234 := Tryz.func356.trans (congrArg some (by kernel_rfl))
 f235 := Tryz.func357.trans (congrArg some (by kernel_rfl))
 f236 := Tryz.func358.trans (congrArg some (by kernel_rfl))
 f260 := Tryz.func413.trans (congrArg some (by kernel_rfl))
 f266 := Tryz.func424.trans (congrArg some (by kernel_rfl))
 f271 := Tryz.func404.trans (congrArg some (by kernel_rfl))
 t0 := Tryz.underlying0
 a0 := Tryz.isAgg0
 z0 := Tryz.sizeOf0
 v0 := Tryz.zeroValue0
 t3 := Tryz.underlying3
 a3 := Tryz.isAgg3
 z3 := Tryz.sizeOf3
 v3 := Tryz.zeroValue3
 t4 := Tryz.underlying4
 a4 := Tryz.isAgg4
 z4 := Tryz.sizeOf4
 v4 := Tryz.zeroValue4
 t5 := Tryz.underlying5
 a5 := Tryz.isAgg5
 z5 := Tryz.sizeOf5
 v5 := Tryz.zeroValue5
 t9 := Tryz.underlying9
 a9 := Tryz.isAgg9
 z9 := Tryz.sizeOf9
 v9 := Tryz.zeroValue9
 t21 := Tryz.underlying21
 a21 := Tryz.isAgg21
 z21 := Tryz.sizeOf21
 v21 := Tryz.zeroValue21
 t46 := Tryz.underlying367
 a46 := Tryz.isAgg367
 z46 := Tryz.sizeOf367
 v46 := Tryz.zeroValue367
 t105 := Tryz.underlying398
 a105 := Tryz.isAgg398
 z105 := Tryz.sizeOf398
 v105 := Tryz.zeroValue398
 t116 := Tryz.underlying387
 a116 := Tryz.isAgg387
 z116 := Tryz.sizeOf387
 t117 := Tryz.underlying388
 a117 := Tryz.isAgg388
 z117 := Tryz.sizeOf388
 v117 := Tryz.zeroValue388
 t119 := Tryz.underlying433
 a119 := Tryz.isAgg433
 z119 := Tryz.sizeOf433
 t124 := Tryz.underlying391
 a124 := Tryz.isAgg391
 z124 := Tryz.sizeOf391
 v124 := Tryz.zeroValue391
 t138 := Tryz.underlying435
 a138 := Tryz.isAgg435
 z138 := Tryz.sizeOf435
 v138 := Tryz.zeroValue435
 t139 := Tryz.underlying436
 a139 := Tryz.isAgg436
 z139 := Tryz.sizeOf436
 v139 := Tryz.zeroValue436
 g3 := by kernel_rfl
 g4 := by kernel_rfl }
open Go.RowKit in
theorem Tryz.strings_Trim_one (s : ByteArray) (c : UInt8) (hc : c.toNat < 128) (w : World) (hs : s.size ≤ 9223372036854775807) :
  Calls Tryz.prog 291 #[.string s, .string ⟨#[c]⟩] w fun e w' => e = .returned (.string ⟨(Lib.trimB s.data.toList c).toArray⟩) ∧ (w' = w ∨ w' = w.drew) := Any.strings_Trim_one Tryz.lays160 s c hc w hs
def Tryz.lays119_ren : Go.Shelf.Ren := ⟨fun | 119 => 402 | n => n, fun | 21 => 21 | 4 => 4 | n => n, fun | n => n⟩
theorem Tryz.lays119 : Go.Proofs.Lays.n119 Tryz.prog Tryz.lays119_ren := {
 mixed := by kernel_rfl
 f119 := Tryz.func402.trans (congrArg some (by kernel_rfl))
 t4 := Tryz.underlying4
 a4 := Tryz.isAgg4
 z4 := Tryz.sizeOf4
 v4 := Tryz.zeroValue4
 t21 := Tryz.underlying21
 a21 := Tryz.isAgg21
 z21 := Tryz.sizeOf21
 v21 := Tryz.zeroValue21 }
theorem Tryz.utf8_ValidRune (r : Int) (w : World) :
  Calls Tryz.prog 402 #[.int .i32 r] w fun e w' => e = .returned (.bool (Lib.validRune r)) ∧ w' = w := Any.utf8_ValidRune Tryz.lays119 r w
def Tryz.lays125_ren : Go.Shelf.Ren := ⟨fun | 125 => 321 | 128 => 385 | 129 => 386 | n => n, fun | 46 => 367 | 3 => 3 | 51 => 414 | 53 => 416 | 4 => 4 | 5 => 5 | 9 => 9 | n => n, fun | n => n⟩
theorem Tryz.lays125 : Go.Proofs.Lays.n125 Tryz.prog Tryz.lays125_ren := {
 mixed := by kernel_rfl
 f125 := Tryz.func321.trans (congrArg some (by kernel_rfl))
 f128 := Tryz.func385.trans (congrArg some (by kernel_rfl))
 f129 := Tryz.func386.trans (congrArg some (by kernel_rfl))
 t3 := Tryz.underlying3
 a3 := Tryz.isAgg3
 z3 := Tryz.sizeOf3
 v3 := Tryz.zeroValue3
 t4 := Tryz.underlying4
 a4 := Tryz.isAgg4
 z4 := Tryz.sizeOf4
 v4 := Tryz.zeroValue4
 t5 := Tryz.underlying5
 a5 := Tryz.isAgg5
 z5 := Tryz.sizeOf5
 v5 := Tryz.zeroValue5
 t9 := Tryz.underlying9
 a9 := Tryz.isAgg9
 z9 := Tryz.sizeOf9
 v9 := Tryz.zeroValue9
 t46 := Tryz.underlying367
 a46 := Tryz.isAgg367
 z46 := Tryz.sizeOf367
 v46 := Tryz.zeroValue367
 t51 := Tryz.underlying414
 a51 := Tryz.isAgg414
 z51 := Tryz.sizeOf414
 v51 := Tryz.zeroValue414
 t53 := Tryz.underlying416
 a53 := Tryz.isAgg416
 z53 := Tryz.sizeOf416
 v53 := Tryz.zeroValue416 }
theorem Tryz.bits_Len (x : Int) (w : World) (h0 : 0 ≤ x) (h1 : x ≤ 18446744073709551615) :
  Calls Tryz.prog 321 #[.int .u64 x] w fun e w' => e = .returned (.int .i64 (Lib.bitLen x.toNat)) ∧ w' = w := Any.bits_Len Tryz.lays125 x w h0 h1
def Tryz.lays213_ren : Go.Shelf.Ren := ⟨fun | 213 => 387 | 265 => 422 | n => n, fun | 9 => 9 | 3 => 3 | n => n, fun | n => n⟩
def Tryz.lays106_ren : Go.Shelf.Ren := ⟨fun | 106 => 322 | 213 => 387 | 265 => 422 | n => n, fun | 9 => 9 | 3 => 3 | n => n, fun | n => n⟩
theorem Tryz.lays106 : Go.Proofs.Lays.n106 Tryz.prog Tryz.lays106_ren := {
 mixed := by kernel_rfl
 f106 := Tryz.func322.trans (congrArg some (by kernel_rfl))
 f213 := Tryz.func387.trans (congrArg some (by kernel_rfl))
 f265 := Tryz.func422.trans (congrArg some (by kernel_rfl))
 t3 := Tryz.underlying3
 a3 := Tryz.isAgg3
 z3 := Tryz.sizeOf3
 v3 := Tryz.zeroValue3
 t9 := Tryz.underlying9
 a9 := Tryz.isAgg9
 z9 := Tryz.sizeOf9
 v9 := Tryz.zeroValue9 }
open Go.RowKit in
theorem Tryz.strings_Compare (a b : ByteArray) (w : World) :
  Calls Tryz.prog 322 #[.string a, .string b] w fun e w' => e = .returned (.int .i64 (Lib.compareBytes a.data.toList b.data.toList)) ∧ w' = w := Any.strings_Compare Tryz.lays106 a b w
def Tryz.lays137_ren : Go.Shelf.Ren := ⟨fun | 137 => 326 | 217 => 389 | 266 => 424 | n => n, fun | 9 => 9 | 5 => 5 | 3 => 3 | n => n, fun | n => n⟩
theorem Tryz.lays137 : Go.Proofs.Lays.n137 Tryz.prog Tryz.lays137_ren := {
 mixed := by kernel_rfl
 f137 := Tryz.func326.trans (congrArg some (by kernel_rfl))
 f217 := Tryz.func389.trans (congrArg some (by kernel_rfl))
 f266 := Tryz.func424.trans (congrArg some (by kernel_rfl))
 t3 := Tryz.underlying3
 a3 := Tryz.isAgg3
 z3 := Tryz.sizeOf3
 v3 := Tryz.zeroValue3
 t5 := Tryz.underlying5
 a5 := Tryz.isAgg5
 z5 := Tryz.sizeOf5
 v5 := Tryz.zeroValue5
 t9 := Tryz.underlying9
 a9 := Tryz.isAgg9
 z9 := Tryz.sizeOf9
 v9 := Tryz.zeroValue9 }
open Go.RowKit in
theorem Tryz.strings_IndexByte (s : ByteArray) (c : Int) (w : World) :
  Calls Tryz.prog 326 #[.string s, .int .u8 c] w fun e w' => e = .returned (.int .i64 (Lib.indexByte s.data.toList c.toNat.toUInt8)) ∧ w' = w := Any.strings_IndexByte Tryz.lays137 s c w
def Tryz.lays210_ren : Go.Shelf.Ren := ⟨fun | 210 => 359 | 206 => 185 | n => n, fun | 9 => 9 | 4 => 4 | 3 => 3 | n => n, fun | n => n⟩
def Tryz.lays103_ren : Go.Shelf.Ren := ⟨fun | 103 => 292 | 210 => 359 | 206 => 185 | n => n, fun | 9 => 9 | 4 => 4 | 24 => 222 | 3 => 3 | n => n, fun | n => n⟩
theorem Tryz.lays103 : Go.Proofs.Lays.n103 Tryz.prog Tryz.lays103_ren := {
 mixed := by kernel_rfl
 f103 := Tryz.func292.trans (congrArg some (by kernel_rfl))
 f206 := Tryz.func185.trans (congrArg some (by kernel_rfl))
 f210 := Tryz.func359.trans (congrArg some (by kernel_rfl))
 t3 := Tryz.underlying3
 a3 := Tryz.isAgg3
 z3 := Tryz.sizeOf3
 v3 := Tryz.zeroValue3
 t4 := Tryz.underlying4
 a4 := Tryz.isAgg4
 z4 := Tryz.sizeOf4
 v4 := Tryz.zeroValue4
 t9 := Tryz.underlying9
 a9 := Tryz.isAgg9
 z9 := Tryz.sizeOf9
 v9 := Tryz.zeroValue9
 t24 := Tryz.underlying222
 a24 := Tryz.isAgg222
 z24 := Tryz.sizeOf222
 v24 := Tryz.zeroValue222 }
open Go.RowKit in
theorem Tryz.strings_CutPrefix (s p : ByteArray) (w : World) :
  Calls Tryz.prog 292 #[.string s, .string p] w fun e w' => e = .returned (.tuple #[.string ⟨(Lib.trimPrefix s.data.toList p.data.toList).toArray⟩, .bool (Lib.hasPrefix s.data.toList p.data.toList)]) ∧ w' = w := Any.strings_CutPrefix Tryz.lays103 s p w
def Tryz.laysM316_ren : Go.Shelf.Ren := ⟨fun | 316 => 392 | n => n, fun | 9 => 9 | 3 => 3 | 4 => 4 | 37 => 297 | 0 => 0 | 127 => 361 | 5 => 5 | n => n, fun | n => n⟩
theorem Tryz.laysM316 : Go.Proofs.LaysM.n316 Tryz.prog Tryz.laysM316_ren := {
 mixed := by kernel_rfl
 f316 := Tryz.func392.trans (congrArg some (by kernel_rfl))
 t0 := Tryz.underlying0
 a0 := Tryz.isAgg0
 z0 := Tryz.sizeOf0
 v0 := Tryz.zeroValue0
 t3 := Tryz.underlying3
 a3 := Tryz.isAgg3
 z3 := Tryz.sizeOf3
 v3 := Tryz.zeroValue3
 t4 := Tryz.underlying4
 a4 := Tryz.isAgg4
 z4 := Tryz.sizeOf4
 v4 := Tryz.zeroValue4
 t9 := Tryz.underlying9
 a9 := Tryz.isAgg9
 z9 := Tryz.sizeOf9
 v9 := Tryz.zeroValue9
 t37 := Tryz.underlying297
 a37 := Tryz.isAgg297
 z37 := Tryz.sizeOf297
 v37 := Tryz.zeroValue297
 t127 := Tryz.underlying361
 a127 := Tryz.isAgg361
 z127 := Tryz.sizeOf361
 v127 := Tryz.zeroValue361
 t5 := Tryz.underlying5
 a5 := Tryz.isAgg5
 z5 := Tryz.sizeOf5
 v5 := Tryz.zeroValue5
 i0 := by kernel_rfl
 i3 := by kernel_rfl
 i4 := by kernel_rfl
 i5 := by kernel_rfl
 i9 := by kernel_rfl
 i37 := by kernel_rfl
 i127 := by kernel_rfl }
open Go.RowKit in
theorem Tryz.stringslite_Clone (s : ByteArray) (w : World) (hlim : s.size ≤ 281474976710656) :
  Calls Tryz.prog 392 #[.string s] w fun e w' => e = .returned (.string s) ∧ Below w.heap.size w w' := Any.stringslite_Clone Tryz.laysM316 s w hlim
def Tryz.lays219_ren : Go.Shelf.Ren := ⟨fun | 219 => 362 | 217 => 389 | 225 => 410 | 224 => 411 | 267 => 412 | 266 => 424 | 314 => 427 | n => n, fun | 9 => 9 | 3 => 3 | 4 => 4 | 5 => 5 | 46 => 367 | 146 => 437 | 51 => 414 | n => n, fun | 1 => 0 | n => n⟩
def Tryz.lays144_ren : Go.Shelf.Ren := ⟨fun | 144 => 334 | 143 => 302 | 219 => 362 | 217 => 389 | 225 => 410 | 224 => 411 | 267 => 412 | 266 => 424 | 314 => 427 | n => n, fun | 9 => 9 | 4 => 4 | 3 => 3 | 5 => 5 | 46 => 367 | 146 => 437 | 51 => 414 | n => n, fun | 1 => 0 | n => n⟩
theorem Tryz.lays144 : Go.Proofs.Lays.n144 Tryz.prog Tryz.lays144_ren := {
 mixed := by kernel_rfl
 f143 := Tryz.func302.trans (congrArg some (by kernel_rfl))
 f144 := Tryz.func334.trans (congrArg some (by kernel_rfl))
 f217 := Tryz.func389.trans (congrArg some (by kernel_rfl))
 f219 := Tryz.func362.trans (congrArg some (by kernel_rfl))
 f224 := Tryz.func411.trans (congrArg some (by kernel_rfl))
 f225 := Tryz.func410.trans (congrArg some (by kernel_rfl))
 f266 := Tryz.func424.trans (congrArg some (by kernel_rfl))
 f267 := Tryz.func412.trans (congrArg some (by kernel_rfl))
 f314 := Tryz.func427.trans (congrArg some (by kernel_rfl))
 t3 := Tryz.underlying3
 a3 := Tryz.isAgg3
 z3 := Tryz.sizeOf3
 v3 := Tryz.zeroValue3
 t4 := Tryz.underlying4
 a4 := Tryz.isAgg4
 z4 := Tryz.sizeOf4
 v4 := Tryz.zeroValue4
 t5 := Tryz.underlying5
 a5 := Tryz.isAgg5
 z5 := Tryz.sizeOf5
 v5 := Tryz.zeroValue5
 t9 := Tryz.underlying9
 a9 := Tryz.isAgg9
 z9 := Tryz.sizeOf9
 v9 := Tryz.zeroValue9
 t46 := Tryz.underlying367
 a46 := Tryz.isAgg367
 z46 := Tryz.sizeOf367
 v46 := Tryz.zeroValue367
 t51 := Tryz.underlying414
 a51 := Tryz.isAgg414
 z51 := Tryz.sizeOf414
 v51 := Tryz.zeroValue414
 t146 := Tryz.underlying437
 a146 := Tryz.isAgg437
 z146 := Tryz.sizeOf437
 v146 := Tryz.zeroValue437
 g1 := by kernel_rfl }
open Go.RowKit Go.Lib in
theorem Tryz.strings_Contains (s sub : ByteArray) (m : Int) (w : World) (hs : s.size < 4294967281) (hm : w.cell? ⟨0, 0, none⟩ = some (.int .i64 m)) :
  Calls Tryz.prog 334 #[.string s, .string sub] w fun e w' => e = .returned (.bool (Lib.contains s.data.toList sub.data.toList)) ∧ w' = w := Any.strings_Contains Tryz.lays144 s sub m w hs hm
def Tryz.lays145_ren : Go.Shelf.Ren := ⟨fun | 145 => 183 | 220 => 299 | 219 => 362 | 217 => 389 | 225 => 410 | 224 => 411 | 267 => 412 | 266 => 424 | 314 => 427 | n => n, fun | 9 => 9 | 4 => 4 | 59 => 220 | 3 => 3 | 5 => 5 | 46 => 367 | 146 => 437 | 51 => 414 | n => n, fun | 1 => 0 | n => n⟩
theorem Tryz.lays145 : Go.Proofs.Lays.n145 Tryz.prog Tryz.lays145_ren := {
 mixed := by kernel_rfl
 f145 := Tryz.func183.trans (congrArg some (by kernel_rfl))
 f217 := Tryz.func389.trans (congrArg some (by kernel_rfl))
 f219 := Tryz.func362.trans (congrArg some (by kernel_rfl))
 f220 := Tryz.func299.trans (congrArg some (by kernel_rfl))
 f224 := Tryz.func411.trans (congrArg some (by kernel_rfl))
 f225 := Tryz.func410.trans (congrArg some (by kernel_rfl))
 f266 := Tryz.func424.trans (congrArg some (by kernel_rfl))
 f267 := Tryz.func412.trans (congrArg some (by kernel_rfl))
 f314 := Tryz.func427.trans (congrArg some (by kernel_rfl))
 t3 := Tryz.underlying3
 a3 := Tryz.isAgg3
 z3 := Tryz.sizeOf3
 v3 := Tryz.zeroValue3
 t4 := Tryz.underlying4
 a4 := Tryz.isAgg4
 z4 := Tryz.sizeOf4
 v4 := Tryz.zeroValue4
 t5 := Tryz.underlying5
 a5 := Tryz.isAgg5
 z5 := Tryz.sizeOf5
 v5 := Tryz.zeroValue5
 t9 := Tryz.underlying9
 a9 := Tryz.isAgg9
 z9 := Tryz.sizeOf9
 v9 := Tryz.zeroValue9
 t46 := Tryz.underlying367
 a46 := Tryz.isAgg367
 z46 := Tryz.sizeOf367
 v46 := Tryz.zeroValue367
 t51 := Tryz.underlying414
 a51 := Tryz.isAgg414
 z51 := Tryz.sizeOf414
 v51 := Tryz.zeroValue414
 t59 := Tryz.underlying220
 a59 := Tryz.isAgg220
 z59 := Tryz.sizeOf220
 v59 := Tryz.zeroValue220
 t146 := Tryz.underlying437
 a146 := Tryz.isAgg437
 z146 := Tryz.sizeOf437
 v146 := Tryz.zeroValue437
 g1 := by kernel_rfl }
open Go.RowKit Go.Lib in
theorem Tryz.strings_Cut (s sep : ByteArray) (m : Int) (w : World) (hs : s.size < 4294967281) (hm : w.cell? ⟨0, 0, none⟩ = some (.int .i64 m)) :
  Calls Tryz.prog 183 #[.string s, .string sep] w fun e w' => e = .returned (.tuple #[.string ⟨(Lib.cut s.data.toList sep.data.toList).1.toArray⟩, .string ⟨(Lib.cut s.data.toList sep.data.toList).2.1.toArray⟩, .bool (Lib.cut s.data.toList sep.data.toList).2.2]) ∧ ∃ n, w' = w.drewN n := Any.strings_Cut Tryz.lays145 s sep m w hs hm
def Tryz.lays99_ren : Go.Shelf.Ren := ⟨fun | 99 => 54 | 206 => 185 | n => n, fun | 9 => 9 | 4 => 4 | 3 => 3 | n => n, fun | n => n⟩
theorem Tryz.lays99 : Go.Proofs.Lays.n99 Tryz.prog Tryz.lays99_ren := {
 mixed := by kernel_rfl
 f99 := Tryz.func54.trans (congrArg some (by kernel_rfl))
 f206 := Tryz.func185.trans (congrArg some (by kernel_rfl))
 t3 := Tryz.underlying3
 a3 := Tryz.isAgg3
 z3 := Tryz.sizeOf3
 v3 := Tryz.zeroValue3
 t4 := Tryz.underlying4
 a4 := Tryz.isAgg4
 z4 := Tryz.sizeOf4
 v4 := Tryz.zeroValue4
 t9 := Tryz.underlying9
 a9 := Tryz.isAgg9
 z9 := Tryz.sizeOf9
 v9 := Tryz.zeroValue9 }
open Go.RowKit Go.Lib in
theorem Tryz.strings_HasPrefix (s p : ByteArray) (w : World) :
  Calls Tryz.prog 54 #[.string s, .string p] w fun e w' => e = .returned (.bool (Lib.hasPrefix s.data.toList p.data.toList)) ∧ w' = w := Any.strings_HasPrefix Tryz.lays99 s p w
def Tryz.lays101_ren : Go.Shelf.Ren := ⟨fun | 101 => 56 | 208 => 187 | 206 => 185 | n => n, fun | 9 => 9 | 4 => 4 | 3 => 3 | n => n, fun | n => n⟩
theorem Tryz.lays101 : Go.Proofs.Lays.n101 Tryz.prog Tryz.lays101_ren := {
 mixed := by kernel_rfl
 f101 := Tryz.func56.trans (congrArg some (by kernel_rfl))
 f206 := Tryz.func185.trans (congrArg some (by kernel_rfl))
 f208 := Tryz.func187.trans (congrArg some (by kernel_rfl))
 t3 := Tryz.underlying3
 a3 := Tryz.isAgg3
 z3 := Tryz.sizeOf3
 v3 := Tryz.zeroValue3
 t4 := Tryz.underlying4
 a4 := Tryz.isAgg4
 z4 := Tryz.sizeOf4
 v4 := Tryz.zeroValue4
 t9 := Tryz.underlying9
 a9 := Tryz.isAgg9
 z9 := Tryz.sizeOf9
 v9 := Tryz.zeroValue9 }
open Go.RowKit Go.Lib in
theorem Tryz.strings_TrimPrefix (s p : ByteArray) (w : World) :
  Calls Tryz.prog 56 #[.string s, .string p] w fun e w' => e = .returned (.string ⟨(Lib.trimPrefix s.data.toList p.data.toList).toArray⟩) ∧ w' = w := Any.strings_TrimPrefix Tryz.lays101 s p w
def Tryz.lays221_ren : Go.Shelf.Ren := ⟨fun | 221 => 186 | 268 => 300 | 138 => 301 | 143 => 302 | 195 => 363 | 197 => 364 | 218 => 365 | 219 => 362 | 260 => 413 | 217 => 389 | 225 => 410 | 224 => 411 | 267 => 412 | 266 => 424 | 314 => 427 | n => n, fun | 9 => 9 | 3 => 3 | 31 => 31 | 4 => 4 | 0 => 0 | 105 => 398 | 21 => 21 | 5 => 5 | 46 => 367 | 119 => 433 | 139 => 436 | 138 => 435 | 146 => 437 | 51 => 414 | n => n, fun | 1 => 0 | 3 => 1 | 4 => 2 | n => n⟩
def Tryz.lays146_ren : Go.Shelf.Ren := ⟨fun | 146 => 55 | 221 => 186 | 268 => 300 | 138 => 301 | 143 => 302 | 195 => 363 | 197 => 364 | 218 => 365 | 219 => 362 | 260 => 413 | 217 => 389 | 225 => 410 | 224 => 411 | 267 => 412 | 266 => 424 | 314 => 427 | n => n, fun | 9 => 9 | 31 => 31 | 3 => 3 | 4 => 4 | 0 => 0 | 105 => 398 | 21 => 21 | 5 => 5 | 46 => 367 | 119 => 433 | 139 => 436 | 138 => 435 | 146 => 437 | 51 => 414 | n => n, fun | 1 => 0 | 3 => 1 | 4 => 2 | n => n⟩
theorem Tryz.lays146 : Go.Proofs.Lays.n146 Tryz.prog Tryz.lays146_ren := {
 mixed := by kernel_rfl
 f138 := Tryz.func301.trans (congrArg some (by kernel_rfl))
 f143 := Tryz.func302.trans (congrArg some (by kernel_rfl))
 f146 := Tryz.func55.trans (congrArg some (by kernel_rfl))
 f195 := Tryz.func363.trans (congrArg some (by kernel_rfl))
 f197 := Tryz.func364.trans (congrArg some (by kernel_rfl))
 f217 := Tryz.func389.trans (congrArg some (by kernel_rfl))
 f218 := Tryz.func365.trans (congrArg some (by kernel_rfl))
 f219 := Tryz.func362.trans (congrArg some (by kernel_rfl))
 f221 := Tryz.func186.trans (congrArg some (by kernel_rfl))
 f224 := Tryz.func411.trans (congrArg some (by kernel_rfl))
 f225 := Tryz.func410.trans (congrArg some (by kernel_rfl))
 f260 := Tryz.func413.trans (congrArg some (by kernel_rfl))
 f266 := Tryz.func424.trans (congrArg some (by kernel_rfl))
 f267 := Tryz.func412.trans (congrArg some (by kernel_rfl))
 f268 := Tryz.func300.trans (congrArg some (by kernel_rfl))
 f314 := Tryz.func427.trans (congrArg some (by kernel_rfl))
 t0 := Tryz.underlying0
 a0 := Tryz.isAgg0
 z0 := Tryz.sizeOf0
 v0 := Tryz.zeroValue0
 t3 := Tryz.underlying3
 a3 := Tryz.isAgg3
 z3 := Tryz.sizeOf3
 v3 := Tryz.zeroValue3
 t4 := Tryz.underlying4
 a4 := Tryz.isAgg4
 z4 := Tryz.sizeOf4
 v4 := Tryz.zeroValue4
 t5 := Tryz.underlying5
 a5 := Tryz.isAgg5
 z5 := Tryz.sizeOf5
 v5 := Tryz.zeroValue5
 t9 := Tryz.underlying9
 a9 := Tryz.isAgg9
 z9 := Tryz.sizeOf9
 v9 := Tryz.zeroValue9
 t21 := Tryz.underlying21
 a21 := Tryz.isAgg21
 z21 := Tryz.sizeOf21
 v21 := Tryz.zeroValue21
 t31 := Tryz.underlying31
 a31 := Tryz.isAgg31
 z31 := Tryz.sizeOf31
 v31 := Tryz.zeroValue31
 t46 := Tryz.underlying367
 a46 := Tryz.isAgg367
 z46 := Tryz.sizeOf367
 v46 := Tryz.zeroValue367
 t51 := Tryz.underlying414
 a51 := Tryz.isAgg414
 z51 := Tryz.sizeOf414
 v51 := Tryz.zeroValue414
 t105 := Tryz.underlying398
 a105 := Tryz.isAgg398
 z105 := Tryz.sizeOf398
 v105 := Tryz.zeroValue398
 t119 := Tryz.underlying433
 a119 := Tryz.isAgg433
 z119 := Tryz.sizeOf433
 t138 := Tryz.underlying435
 a138 := Tryz.isAgg435
 z138 := Tryz.sizeOf435
 v138 := Tryz.zeroValue435
 t139 := Tryz.underlying436
 a139 := Tryz.isAgg436
 z139 := Tryz.sizeOf436
 v139 := Tryz.zeroValue436
 t146 := Tryz.underlying437
 a146 := Tryz.isAgg437
 z146 := Tryz.sizeOf437
 v146 := Tryz.zeroValue437
 g1 := by kernel_rfl
 g3 := by kernel_rfl
 g4 := by kernel_rfl }
open Go.RowKit Go.Lib in
theorem Tryz.strings_Split (s sep : ByteArray) (m : Int) (w : World) (hs : s.size < 4294967281) (hm : w.cell? ⟨0, 0, none⟩ = some (.int .i64 m)) (h1 : 1 ≤ sep.size) :
  Calls Tryz.prog 55 #[.string s, .string sep] w fun e w' =>
   e = .returned (.slice (some ⟨w.heap.size, 0, none⟩) (Lib.countB s sep + 1) (Lib.countB s sep + 1)) ∧ w' = w.alloc (.cells ((Lib.splitB sep 0 (Lib.countB s sep) s).map Value.string).toArray 9) := Any.strings_Split Tryz.lays146 (by kernel_rfl) s sep m w hs hm h1
def Tryz.lays154_ren : Go.Shelf.Ren := ⟨fun | 154 => 311 | 138 => 301 | 165 => 239 | 143 => 302 | 166 => 240 | 197 => 364 | 169 => 241 | 195 => 363 | 218 => 365 | 240 => 312 | 241 => 313 | 219 => 362 | 260 => 413 | 276 => 373 | 277 => 374 | 217 => 389 | 225 => 410 | 224 => 411 | 267 => 412 | 266 => 424 | 314 => 427 | n => n, fun | 9 => 9 | 3 => 3 | 4 => 4 | 72 => 299 | 0 => 0 | 76 => 303 | 105 => 398 | 21 => 21 | 5 => 5 | 70 => 296 | 20 => 20 | 37 => 297 | 75 => 302 | 127 => 361 | 164 => 400 | 46 => 367 | 119 => 433 | 139 => 436 | 138 => 435 | 146 => 437 | 51 => 414 | 80 => 210 | n => n, fun | 1 => 0 | 3 => 1 | 4 => 2 | n => n⟩
def Tryz.lays155_ren : Go.Shelf.Ren := ⟨fun | 155 => 238 | 154 => 311 | 138 => 301 | 165 => 239 | 143 => 302 | 166 => 240 | 197 => 364 | 169 => 241 | 195 => 363 | 218 => 365 | 240 => 312 | 241 => 313 | 219 => 362 | 260 => 413 | 276 => 373 | 277 => 374 | 217 => 389 | 225 => 410 | 224 => 411 | 267 => 412 | 266 => 424 | 314 => 427 | n => n, fun | 9 => 9 | 3 => 3 | 4 => 4 | 72 => 299 | 0 => 0 | 76 => 303 | 105 => 398 | 21 => 21 | 5 => 5 | 70 => 296 | 20 => 20 | 37 => 297 | 75 => 302 | 127 => 361 | 164 => 400 | 46 => 367 | 119 => 433 | 139 => 436 | 138 => 435 | 146 => 437 | 51 => 414 | 80 => 210 | n => n, fun | 1 => 0 | 3 => 1 | 4 => 2 | n => n⟩
theorem Tryz.lays155 : Go.Proofs.Lays.n155 Tryz.prog Tryz.lays155_ren := {
 mixed := by kernel_rfl
 f138 := Tryz.func301.trans (congrArg some (by kernel_rfl))
 f143 := Tryz.func302.trans (congrArg some (by kernel_rfl))
 f154 := Tryz.func311.trans (congrArg some (by kernel_rfl))
 f155 := Tryz.func238.trans (congrArg some (by kernel_rfl))
 f165 := Tryz.func239.trans (congrArg some (by kernel_rfl))
 f166 := Tryz.func240.trans (congrArg some (by kernel_rfl))
 f169 := Tryz.func241.trans (congrArg some (by kernel_rfl))
 f195 := Tryz.func363.trans (congrArg some (by kernel_rfl))
 f197 := Tryz.func364.trans (congrArg some (by kernel_rfl))
 f217 := Tryz.func389.trans (congrArg some (by kernel_rfl))
 f218 := Tryz.func365.trans (congrArg some (by kernel_rfl))
 f219 := Tryz.func362.trans (congrArg some (by kernel_rfl))
 f224 := Tryz.func411.trans (congrArg some (by kernel_rfl))
 f225 := Tryz.func410.trans (congrArg some (by kernel_rfl))
 f240 := Tryz.func312.trans (congrArg some (by kernel_rfl))
 f241 := Tryz.func313.trans (congrArg some (by kernel_rfl))
 f260 := Tryz.func413.trans (congrArg some (by kernel_rfl))
 f266 := Tryz.func424.trans (congrArg some (by kernel_rfl))
 f267 := Tryz.func412.trans (congrArg some (by kernel_rfl))
 f276 := Tryz.func373.trans (congrArg some (by kernel_rfl))
 f277 := Tryz.func374.trans (congrArg some (by kernel_rfl))
 f314 := Tryz.func427.trans (congrArg some (by kernel_rfl))
 t0 := Tryz.underlying0
 a0 := Tryz.isAgg0
 z0 := Tryz.sizeOf0
 v0 := Tryz.zeroValue0
 t3 := Tryz.underlying3
 a3 := Tryz.isAgg3
 z3 := Tryz.sizeOf3
 v3 := Tryz.zeroValue3
 t4 := Tryz.underlying4
 a4 := Tryz.isAgg4
 z4 := Tryz.sizeOf4
 v4 := Tryz.zeroValue4
 t5 := Tryz.underlying5
 a5 := Tryz.isAgg5
 z5 := Tryz.sizeOf5
 v5 := Tryz.zeroValue5
 t9 := Tryz.underlying9
 a9 := Tryz.isAgg9
 z9 := Tryz.sizeOf9
 v9 := Tryz.zeroValue9
 t20 := Tryz.underlying20
 a20 := Tryz.isAgg20
 z20 := Tryz.sizeOf20
 v20 := Tryz.zeroValue20
 t21 := Tryz.underlying21
 a21 := Tryz.isAgg21
 z21 := Tryz.sizeOf21
 v21 := Tryz.zeroValue21
 t37 := Tryz.underlying297
 a37 := Tryz.isAgg297
 z37 := Tryz.sizeOf297
 v37 := Tryz.zeroValue297
 t46 := Tryz.underlying367
 a46 := Tryz.isAgg367
 z46 := Tryz.sizeOf367
 v46 := Tryz.zeroValue367
 t51 := Tryz.underlying414
 a51 := Tryz.isAgg414
 z51 := Tryz.sizeOf414
 v51 := Tryz.zeroValue414
 t70 := Tryz.underlying296
 a70 := Tryz.isAgg296
 z70 := Tryz.sizeOf296
 v70 := Tryz.zeroValue296
 t72 := Tryz.underlying299
 a72 := Tryz.isAgg299
 z72 := Tryz.sizeOf299
 v72 := Tryz.zeroValue299
 t75 := Tryz.underlying302
 a75 := Tryz.isAgg302
 z75 := Tryz.sizeOf302
 v75 := Tryz.zeroValue302
 t76 := Tryz.underlying303
 a76 := Tryz.isAgg303
 z76 := Tryz.sizeOf303
 v76 := Tryz.zeroValue303
 t105 := Tryz.underlying398
 a105 := Tryz.isAgg398
 z105 := Tryz.sizeOf398
 v105 := Tryz.zeroValue398
 t119 := Tryz.underlying433
 a119 := Tryz.isAgg433
 z119 := Tryz.sizeOf433
 t127 := Tryz.underlying361
 a127 := Tryz.isAgg361
 z127 := Tryz.sizeOf361
 v127 := Tryz.zeroValue361
 t138 := Tryz.underlying435
 a138 := Tryz.isAgg435
 z138 := Tryz.sizeOf435
 v138 := Tryz.zeroValue435
 t139 := Tryz.underlying436
 a139 := Tryz.isAgg436
 z139 := Tryz.sizeOf436
 v139 := Tryz.zeroValue436
 t146 := Tryz.underlying437
 a146 := Tryz.isAgg437
 z146 := Tryz.sizeOf437
 v146 := Tryz.zeroValue437
 t164 := Tryz.underlying400
 a164 := Tryz.isAgg400
 z164 := Tryz.sizeOf400
 v164 := Tryz.zeroValue400
 g1 := by kernel_rfl
 g3 := by kernel_rfl
 g4 := by kernel_rfl }
theorem Tryz.Builder_Extra_155 : Builder.Extra Tryz.prog Tryz.lays155_ren := {
 sizeBuilder := by kernel_rfl
 liesBuilder := by kernel_rfl
 t5 := Tryz.underlying5
 a5 := Tryz.isAgg5
 z5 := Tryz.sizeOf5
 v5 := Tryz.zeroValue5
 infoByte := by kernel_rfl
 cellsByte := by kernel_rfl
 sizeByte := by kernel_rfl
 neB5 := by decide }
open Go.RowKit Go.Lib in
theorem Tryz.strings_ReplaceAll (s old new : ByteArray) (m : Int) (w : World) (hs : s.size < 4294967281) (hm : w.cell? ⟨0, 0, none⟩ = some (.int .i64 m)) (h1 : 1 ≤ old.size) (hlen : s.size + Lib.countB s old * new.size ≤ 140737488355328) :
  Calls Tryz.prog 238 #[.string s, .string old, .string new] w fun e w' =>
   e = .returned (.string ⟨(Lib.replaceAll s.data.toList old.data.toList new.data.toList).toArray⟩) ∧ Below w.heap.size w w' := Any.strings_ReplaceAll Tryz.lays155 Tryz.Builder_Extra_155 s old new m w hs hm h1 hlen
def Tryz.lays152_ren : Go.Shelf.Ren := ⟨fun | 152 => 393 | 137 => 326 | 119 => 402 | 224 => 411 | 225 => 410 | 217 => 389 | 266 => 424 | n => n, fun | 9 => 9 | 21 => 21 | 3 => 3 | 4 => 4 | 5 => 5 | 0 => 0 | 46 => 367 | n => n, fun | n => n⟩
theorem Tryz.lays152 : Go.Proofs.Lays.n152 Tryz.prog Tryz.lays152_ren := {
 mixed := by kernel_rfl
 f119 := Tryz.func402.trans (congrArg some (by kernel_rfl))
 f137 := Tryz.func326.trans (congrArg some (by kernel_rfl))
 f152 := Tryz.func393.trans (congrArg some (by kernel_rfl))
 f217 := Tryz.func389.trans (congrArg some (by kernel_rfl))
 f224 := Tryz.func411.trans (congrArg some (by kernel_rfl))
 f225 := Tryz.func410.trans (congrArg some (by kernel_rfl))
 f266 := Tryz.func424.trans (congrArg some (by kernel_rfl))
 t0 := Tryz.underlying0
 a0 := Tryz.isAgg0
 z0 := Tryz.sizeOf0
 v0 := Tryz.zeroValue0
 t3 := Tryz.underlying3
 a3 := Tryz.isAgg3
 z3 := Tryz.sizeOf3
 v3 := Tryz.zeroValue3
 t4 := Tryz.underlying4
 a4 := Tryz.isAgg4
 z4 := Tryz.sizeOf4
 v4 := Tryz.zeroValue4
 t5 := Tryz.underlying5
 a5 := Tryz.isAgg5
 z5 := Tryz.sizeOf5
 v5 := Tryz.zeroValue5
 t9 := Tryz.underlying9
 a9 := Tryz.isAgg9
 z9 := Tryz.sizeOf9
 v9 := Tryz.zeroValue9
 t21 := Tryz.underlying21
 a21 := Tryz.isAgg21
 z21 := Tryz.sizeOf21
 v21 := Tryz.zeroValue21
 t46 := Tryz.underlying367
 a46 := Tryz.isAgg367
 z46 := Tryz.sizeOf367
 v46 := Tryz.zeroValue367 }
open Go.RowKit Go.Lib in
theorem Tryz.strings_IndexRune_ascii (s : ByteArray) (r : Int) (w : World) (h0 : 0 ≤ r) (h1 : r < 128) :
  Calls Tryz.prog 393 #[.string s, .int .i32 r] w fun e w' => e = .returned (.int .i64 (Lib.indexByte s.data.toList r.toNat.toUInt8)) ∧ w' = w := Any.strings_IndexRune_ascii Tryz.lays152 s r w h0 h1
def Tryz.lays226_ren : Go.Shelf.Ren := ⟨fun | 226 => 394 | n => n, fun | 3 => 3 | 4 => 4 | n => n, fun | n => n⟩
theorem Tryz.lays226 : Go.Proofs.Lays.n226 Tryz.prog Tryz.lays226_ren := {
 mixed := by kernel_rfl
 f226 := Tryz.func394.trans (congrArg some (by kernel_rfl))
 t3 := Tryz.underlying3
 a3 := Tryz.isAgg3
 z3 := Tryz.sizeOf3
 v3 := Tryz.zeroValue3
 t4 := Tryz.underlying4
 a4 := Tryz.isAgg4
 z4 := Tryz.sizeOf4
 v4 := Tryz.zeroValue4 }
open Go.RowKit Go.Lib in
theorem Tryz.strings_shouldUseASCIISet (n : Int) (w : World) :
  Calls Tryz.prog 394 #[.int .i64 n] w fun e w' => e = .returned (.bool (decide (8 < n))) ∧ w' = w := Any.strings_shouldUseASCIISet Tryz.lays226 n w
def Tryz.lays153_ren : Go.Shelf.Ren := ⟨fun | 153 => 332 | 152 => 393 | 226 => 394 | 227 => 354 | 228 => 395 | 137 => 326 | 119 => 402 | 224 => 411 | 225 => 410 | 217 => 389 | 266 => 424 | n => n, fun | 9 => 9 | 3 => 3 | 4 => 4 | 5 => 5 | 21 => 21 | 117 => 388 | 116 => 387 | 0 => 0 | 46 => 367 | 124 => 391 | n => n, fun | n => n⟩
theorem Tryz.lays153 : Go.Proofs.Lays.n153 Tryz.prog Tryz.lays153_ren := {
 mixed := by kernel_rfl
 f119 := Tryz.func402.trans (congrArg some (by kernel_rfl))
 f137 := Tryz.func326.trans (congrArg some (by kernel_rfl))
 f152 := Tryz.func393.trans (congrArg some (by kernel_rfl))
 f153 := Tryz.func332.trans (congrArg some (by kernel_rfl))
 f217 := Tryz.func389.trans (congrArg some (by kernel_rfl))
 f224 := Tryz.func411.trans (congrArg some (by kernel_rfl))
 f225 := Tryz.func410.trans (congrArg some (by kernel_rfl))
 f226 := Tryz.func394.trans (congrArg some (by kernel_rfl))
 f227 := Tryz.func354.trans (congrArg some (by kernel_rfl))
 f228 := Tryz.func395.trans (congrArg some (by kernel_rfl))
 f266 := Tryz.func424.trans (congrArg some (by kernel_rfl))
 t0 := Tryz.underlying0
 a0 := Tryz.isAgg0
 z0 := Tryz.sizeOf0
 v0 := Tryz.zeroValue0
 t3 := Tryz.underlying3
 a3 := Tryz.isAgg3
 z3 := Tryz.sizeOf3
 v3 := Tryz.zeroValue3
 t4 := Tryz.underlying4
 a4 := Tryz.isAgg4
 z4 := Tryz.sizeOf4
 v4 := Tryz.zeroValue4
 t5 := Tryz.underlying5
 a5 := Tryz.isAgg5
 z5 := Tryz.sizeOf5
 v5 := Tryz.zeroValue5
 t9 := Tryz.underlying9
 a9 := Tryz.isAgg9
 z9 := Tryz.sizeOf9
 v9 := Tryz.zeroValue9
 t21 := Tryz.underlying21
 a21 := Tryz.isAgg21
 z21 := Tryz.sizeOf21
 v21 := Tryz.zeroValue21
 t46 := Tryz.underlying367
 a46 := Tryz.isAgg367
 z46 := Tryz.sizeOf367
 v46 := Tryz.zeroValue367
 t116 := Tryz.underlying387
 a116 := Tryz.isAgg387
 z116 := Tryz.sizeOf387
 t117 := Tryz.underlying388
 a117 := Tryz.isAgg388
 z117 := Tryz.sizeOf388
 v117 := Tryz.zeroValue388
 t124 := Tryz.underlying391
 a124 := Tryz.isAgg391
 z124 := Tryz.sizeOf391
 v124 := Tryz.zeroValue391 }
open Go.RowKit Go.Lib in
theorem Tryz.strings_IndexAny_long (hv116 : ∀ w, (zeroValue 387).run Tryz.prog w = .ok (.agg (Array.replicate 256 (.bool false))) w) (s chars : ByteArray) (w : World) (h2 : 2 ≤ chars.size) (h8 : 8 < s.size) (hs : s.size < 4294967281) (hcs : chars.size < 4294967281) (hascii : ∀ (j : Nat) b, chars.data.toList[j]? = some b → b.toNat < 128) :
  Calls Tryz.prog 332 #[.string s, .string chars] w fun e w' => e = .returned (.int .i64 (Lib.indexAny s.data.toList chars.data.toList)) ∧ w' = ((w.alloc (.cells (Lib.setCells chars.data.toList) 387)).alloc (.cells (Lib.setCells chars.data.toList) 387)) := Any.strings_IndexAny_long Tryz.lays153 hv116 (by kernel_rfl) s chars w h2 h8 hs hcs hascii
def Tryz.lays196_ren : Go.Shelf.Ren := ⟨fun | 196 => 388 | 259 => 423 | n => n, fun | 9 => 9 | 4 => 4 | 3 => 3 | 5 => 5 | 12 => 12 | 119 => 433 | 0 => 0 | 46 => 367 | 139 => 436 | 138 => 435 | 53 => 416 | n => n, fun | 3 => 1 | 4 => 2 | n => n⟩
theorem Tryz.lays196 : Go.Proofs.Lays.n196 Tryz.prog Tryz.lays196_ren := {
 mixed := by kernel_rfl
 f196 := Tryz.func388.trans (congrArg some (by kernel_rfl))
 f259 := Tryz.func423.trans (congrArg some (by kernel_rfl))
 t0 := Tryz.underlying0
 a0 := Tryz.isAgg0
 z0 := Tryz.sizeOf0
 v0 := Tryz.zeroValue0
 t3 := Tryz.underlying3
 a3 := Tryz.isAgg3
 z3 := Tryz.sizeOf3
 v3 := Tryz.zeroValue3
 t4 := Tryz.underlying4
 a4 := Tryz.isAgg4
 z4 := Tryz.sizeOf4
 v4 := Tryz.zeroValue4
 t5 := Tryz.underlying5
 a5 := Tryz.isAgg5
 z5 := Tryz.sizeOf5
 v5 := Tryz.zeroValue5
 t9 := Tryz.underlying9
 a9 := Tryz.isAgg9
 z9 := Tryz.sizeOf9
 v9 := Tryz.zeroValue9
 t12 := Tryz.underlying12
 a12 := Tryz.isAgg12
 z12 := Tryz.sizeOf12
 v12 := Tryz.zeroValue12
 t46 := Tryz.underlying367
 a46 := Tryz.isAgg367
 z46 := Tryz.sizeOf367
 v46 := Tryz.zeroValue367
 t53 := Tryz.underlying416
 a53 := Tryz.isAgg416
 z53 := Tryz.sizeOf416
 v53 := Tryz.zeroValue416
 t119 := Tryz.underlying433
 a119 := Tryz.isAgg433
 z119 := Tryz.sizeOf433
 t138 := Tryz.underlying435
 a138 := Tryz.isAgg435
 z138 := Tryz.sizeOf435
 v138 := Tryz.zeroValue435
 t139 := Tryz.underlying436
 a139 := Tryz.isAgg436
 z139 := Tryz.sizeOf436
 v139 := Tryz.zeroValue436
 g3 := by kernel_rfl
 g4 := by kernel_rfl }
open Go.RowKit in
theorem Tryz.utf8_ValidString (s : ByteArray) (w : World) (hs : s.size ≤ 9223372036854775807) (hT : Lib.Utf8Tabs (Tryz.lays196_ren.g 3) (Tryz.lays196_ren.g 4) w) :
  Calls Tryz.prog 388 #[.string s] w fun e w' => e = .returned (.bool (Lib.validD s.data.toList)) ∧ Below w.heap.size w w' := Any.utf8_ValidString Tryz.lays196 s w hs hT
open Go.RowKit in
theorem Tryz.strings_Trim_set (s cs : ByteArray) (w : World) (hs : s.size ≤ 9223372036854775807) (hc : cs.size < 4294967281) (ha : ∀ (j : Nat) b, cs.data.toList[j]? = some b → b.toNat < 128) :
  Calls Tryz.prog 291 #[.string s, .string cs] w fun e w' => e = .returned (.string ⟨(Lib.trimS s.data.toList cs.data.toList).toArray⟩) ∧ Below w.heap.size w w' := Any.strings_Trim_laid Tryz.lays160 (by kernel_rfl) s cs w hs hc ha
end Go.Proofs
