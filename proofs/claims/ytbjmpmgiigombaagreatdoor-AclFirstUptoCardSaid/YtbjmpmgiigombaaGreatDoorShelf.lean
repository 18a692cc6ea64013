/-
 DERIVED: THE SHELF's CONTRACTS AT THIS DUMP, IN PLAIN WORDS (tools/lay-plain.mjs out of 'TryzShelf.lean', which tools/lay-shelf.mjs wrote): THE SAME DECLARATIONS UNDER THE SAME NAMES: 'import', 'namespace', 'open', 'def', 'theorem' AND NOTHING ELSE: no command of the shelf's: FOR A HAND-IN. Each laying: the table of numbers ('.._ren') and one theorem, a field a fact of the dump's own or the kernel's comparison; each contract: ONE APPLICATION.
-/
import Derived.Shelf.Strings.SlTrimAscii
import Derived.Shelf.Unicode.ValidAny
import Derived.Shelf.Strings.Builder1
import Derived.Shelf.Strings.Builder2
import Derived.Shelf.Strings.OnBuilder
import Derived.Shelf.Strings.Trim
import Derived.Shelf.Small.Utf8
import Derived.Shelf.Small.Bits
import Derived.Shelf.Small.Strs
import Derived.Shelf.Small.Wraps
import Derived.Shelf.Utf8.RuneCount
import Derived.Shelf.Strconv.Itoa0
import Derived.Shelf.LaysM
import Derived.Shelf.Strconv.Clone
import Derived.Shelf.Strings.Search1
import Derived.Shelf.Strings.Search2
import Derived.Shelf.Strings.Search3
import Derived.Shelf.Strings.Cut
import Derived.Shelf.Strings.Count
import Derived.Shelf.Strings.Shaped
import Derived.Shelf.Strings.Prefix
import Derived.Shelf.Strings.Split
import Derived.Shelf.Strings.Replace
import Derived.Shelf.Strings.SplitShaped
import Derived.Shelf.Unicode.Decode
import Derived.Shelf.Strings.Runes
import Derived.Shelf.Strings.RuneCount
import Derived.Shelf.Strings.IndexAny
import Derived.Shelf.Strings.AsciiSet
import Derived.Shelf.Strings.IndexAnyAll
import Derived.Shelf.Strings.Explode
import Derived.Shelf.Unicode.DecodeSlow
import Derived.Shelf.Unicode.DecodeAny
import Derived.Test.YtbjmpmgiigombaaGreatDoorProg
namespace Go.Proofs
open Go.Shelf
def Tryz.lays156_ren : Go.Shelf.Ren := ⟨fun | 156 => 110 | 165 => 179 | 166 => 180 | 169 => 181 | 240 => 231 | 241 => 232 | 276 => 281 | 277 => 282 | n => n, fun | 31 => 44 | 9 => 9 | 3 => 3 | 4 => 4 | 0 => 0 | 20 => 20 | 72 => 230 | 76 => 234 | 70 => 227 | 37 => 228 | 75 => 233 | 127 => 278 | 164 => 314 | 5 => 5 | 80 => 236 | n => n, fun | n => n⟩
theorem Tryz.lays156 : Go.Proofs.Lays.n156 Tryz.prog Tryz.lays156_ren := {
 mixed := by kernel_rfl
 f156 := Tryz.func110.trans (congrArg some (by kernel_rfl))
 f165 := Tryz.func179.trans (congrArg some (by kernel_rfl))
 f166 := Tryz.func180.trans (congrArg some (by kernel_rfl))
 f169 := Tryz.func181.trans (congrArg some (by kernel_rfl))
 f240 := Tryz.func231.trans (congrArg some (by kernel_rfl))
 f241 := Tryz.func232.trans (congrArg some (by kernel_rfl))
 f276 := Tryz.func281.trans (congrArg some (by kernel_rfl))
 f277 := Tryz.func282.trans (congrArg some (by kernel_rfl))
 t0 := Tryz.underlying0
 a0 := Tryz.isAgg0
 z0 := Tryz.sizeOf0
 v0 := Tryz.zeroValue0
 t3 := Tryz.underlying3
 a3 := Tryz.isAgg3
 z3 := Tryz.sizeOf3
 v3 := Tryz.zeroValue3
 t4 := Tryz.underlying4
 a4 := Tryz.isAgg4
 z4 := Tryz.sizeOf4
 v4 := Tryz.zeroValue4
 t9 := Tryz.underlying9
 a9 := Tryz.isAgg9
 z9 := Tryz.sizeOf9
 v9 := Tryz.zeroValue9
 t20 := Tryz.underlying20
 a20 := Tryz.isAgg20
 z20 := Tryz.sizeOf20
 v20 := Tryz.zeroValue20
 t31 := Tryz.underlying44
 a31 := Tryz.isAgg44
 z31 := Tryz.sizeOf44
 v31 := Tryz.zeroValue44
 t37 := Tryz.underlying228
 a37 := Tryz.isAgg228
 z37 := Tryz.sizeOf228
 v37 := Tryz.zeroValue228
 t70 := Tryz.underlying227
 a70 := Tryz.isAgg227
 z70 := Tryz.sizeOf227
 v70 := Tryz.zeroValue227
 t72 := Tryz.underlying230
 a72 := Tryz.isAgg230
 z72 := Tryz.sizeOf230
 v72 := Tryz.zeroValue230
 t75 := Tryz.underlying233
 a75 := Tryz.isAgg233
 z75 := Tryz.sizeOf233
 v75 := Tryz.zeroValue233
 t76 := Tryz.underlying234
 a76 := Tryz.isAgg234
 z76 := Tryz.sizeOf234
 v76 := Tryz.zeroValue234
 t127 := Tryz.underlying278
 a127 := Tryz.isAgg278
 z127 := Tryz.sizeOf278
 v127 := Tryz.zeroValue278
 t164 := Tryz.underlying314
 a164 := Tryz.isAgg314
 z164 := Tryz.sizeOf314
 v164 := Tryz.zeroValue314 }
theorem Tryz.Builder_Extra_156 : Builder.Extra Tryz.prog Tryz.lays156_ren := {
 sizeBuilder := by kernel_rfl
 liesBuilder := by kernel_rfl
 t5 := Tryz.underlying5
 a5 := Tryz.isAgg5
 z5 := Tryz.sizeOf5
 v5 := Tryz.zeroValue5
 infoByte := by kernel_rfl
 cellsByte := by kernel_rfl
 sizeByte := by kernel_rfl
 neB5 := by decide }
open Go.RowKit in
theorem Tryz.strings_Join_none (a : Option Addr) (c : Nat) (sep : ByteArray) (w : World) :
  Calls Tryz.prog 110 #[.slice a 0 c, .string sep] w fun e w' => e = .returned (.string ⟨#[]⟩) ∧ w' = w := Any.strings_Join_none Tryz.lays156 Tryz.Builder_Extra_156 a c sep w
open Go.RowKit in
theorem Tryz.strings_Join (bk o c : Nat) (xs : List ByteArray) (sep : ByteArray) (w : World) (hcells : ∀ (j : Nat) x, xs[j]? = some x → w.cell? ⟨bk, o + j, none⟩ = some (.string x)) (hbk : bk < w.heap.size) (hN : xs.length ≤ 140737488355328) (hcap : xs.length ≤ c) (hlen : (Lib.join (xs.map (·.data.toList)) sep.data.toList).length ≤ 140737488355328) :
  Calls Tryz.prog 110 #[.slice (some ⟨bk, o, none⟩) xs.length c, .string sep] w fun e w' => e = .returned (.string ⟨(Lib.join (xs.map (·.data.toList)) sep.data.toList).toArray⟩) ∧ Below w.heap.size w w' := Any.strings_Join Tryz.lays156 Tryz.Builder_Extra_156 bk o c xs sep w hcells hbk hN hcap hlen
def Tryz.lays160_ren : Go.Shelf.Ren := ⟨fun | 160 => 220 | 232 => 267 | 231 => 266 | 227 => 268 | 234 => 270 | 233 => 269 | 236 => 272 | 235 => 271 | 228 => 301 | 271 => 312 | 151 => 311 | 197 => 264 | 120 => 340 | 152 => 299 | 260 => 310 | 137 => 241 | 119 => 332 | 224 => 308 | 225 => 307 | 217 => 297 | 266 => 331 | n => n, fun | 9 => 9 | 4 => 4 | 3 => 3 | 5 => 5 | 117 => 310 | 116 => 309 | 0 => 0 | 124 => 313 | 21 => 21 | 105 => 305 | 46 => 339 | 119 => 356 | 139 => 359 | 138 => 358 | n => n, fun | 3 => 1 | 4 => 2 | n => n⟩
theorem Tryz.lays160 : Go.Proofs.Lays.n160 Tryz.prog Tryz.lays160_ren := {
 mixed := by kernel_rfl
 f119 := Tryz.func332.trans (congrArg some (by kernel_rfl))
 f120 := Tryz.func340.trans (congrArg some (by kernel_rfl))
 f137 := Tryz.func241.trans (congrArg some (by kernel_rfl))
 f151 := Tryz.func311.trans (congrArg some (by kernel_rfl))
 f152 := Tryz.func299.trans (congrArg some (by kernel_rfl))
 f160 := Tryz.func220.trans (congrArg some (by kernel_rfl))
 f197 := Tryz.func264.trans (congrArg some (by kernel_rfl))
 f217 := Tryz.func297.trans (congrArg some (by kernel_rfl))
 f224 := Tryz.func308.trans (congrArg some (by kernel_rfl))
 f225 := Tryz.func307.trans (congrArg some (by kernel_rfl))
 f227 := Tryz.func268.trans (congrArg some (by kernel_rfl))
 f228 := Tryz.func301.trans (congrArg some (by kernel_rfl))
 f231 := Tryz.func266.trans (congrArg some (by kernel_rfl))
 f232 := Tryz.func267.trans (congrArg some (by kernel_rfl))
 f233 := Tryz.func269.trans (congrArg some (by kernel_rfl))
 f234 := Tryz.func270.trans (congrArg some (by kernel_rfl))
 f235 := Tryz.func271.trans (congrArg some (by kernel_rfl))
 f236 := Tryz.func272.trans (congrArg some (by kernel_rfl))
 f260 := Tryz.func310.trans (congrArg some (by kernel_rfl))
 f266 := Tryz.func331.trans (congrArg some (by kernel_rfl))
 f271 := Tryz.func312.trans (congrArg some (by kernel_rfl))
 t0 := Tryz.underlying0
 a0 := Tryz.isAgg0
 z0 := Tryz.sizeOf0
 v0 := Tryz.zeroValue0
 t3 := Tryz.underlying3
 a3 := Tryz.isAgg3
 z3 := Tryz.sizeOf3
 v3 := Tryz.zeroValue3
 t4 := Tryz.underlying4
 a4 := Tryz.isAgg4
 z4 := Tryz.sizeOf4
 v4 := Tryz.zeroValue4
 t5 := Tryz.underlying5
 a5 := Tryz.isAgg5
 z5 := Tryz.sizeOf5
 v5 := Tryz.zeroValue5
 t9 := Tryz.underlying9
 a9 := Tryz.isAgg9
 z9 := Tryz.sizeOf9
 v9 := Tryz.zeroValue9
 t21 := Tryz.underlying21
 a21 := Tryz.isAgg21
 z21 := Tryz.sizeOf21
 v21 := Tryz.zeroValue21
 t46 := Tryz.underlying339
 a46 := Tryz.isAgg339
 z46 := Tryz.sizeOf339
 v46 := Tryz.zeroValue339
 t105 := Tryz.underlying305
 a105 := Tryz.isAgg305
 z105 := Tryz.sizeOf305
 v105 := Tryz.zeroValue305
 t116 := Tryz.underlying309
 a116 := Tryz.isAgg309
 z116 := Tryz.sizeOf309
 t117 := Tryz.underlying310
 a117 := Tryz.isAgg310
 z117 := Tryz.sizeOf310
 v117 := Tryz.zeroValue310
 t119 := Tryz.underlying356
 a119 := Tryz.isAgg356
 z119 := Tryz.sizeOf356
 t124 := Tryz.underlying313
 a124 := Tryz.isAgg313
 z124 := Tryz.sizeOf313
 v124 := Tryz.zeroValue313
 t138 := Tryz.underlying358
 a138 := Tryz.isAgg358
 z138 := Tryz.sizeOf358
 v138 := Tryz.zeroValue358
 t139 := Tryz.underlying359
 a139 := Tryz.isAgg359
 z139 := Tryz.sizeOf359
 v139 := Tryz.zeroValue359
 g3 := by kernel_rfl
 g4 := by kernel_rfl }
open Go.RowKit in
theorem Tryz.strings_Trim_one (s : ByteArray) (c : UInt8) (hc : c.toNat < 128) (w : World) (hs : s.size ≤ 9223372036854775807) :
  Calls Tryz.prog 220 #[.string s, .string ⟨#[c]⟩] w fun e w' => e = .returned (.string ⟨(Lib.trimB s.data.toList c).toArray⟩) ∧ (w' = w ∨ w' = w.drew) := Any.strings_Trim_one Tryz.lays160 s c hc w hs
def Tryz.lays119_ren : Go.Shelf.Ren := ⟨fun | 119 => 332 | n => n, fun | 21 => 21 | 4 => 4 | n => n, fun | n => n⟩
theorem Tryz.lays119 : Go.Proofs.Lays.n119 Tryz.prog Tryz.lays119_ren := {
 mixed := by kernel_rfl
 f119 := Tryz.func332.trans (congrArg some (by kernel_rfl))
 t4 := Tryz.underlying4
 a4 := Tryz.isAgg4
 z4 := Tryz.sizeOf4
 v4 := Tryz.zeroValue4
 t21 := Tryz.underlying21
 a21 := Tryz.isAgg21
 z21 := Tryz.sizeOf21
 v21 := Tryz.zeroValue21 }
theorem Tryz.utf8_ValidRune (r : Int) (w : World) :
  Calls Tryz.prog 332 #[.int .i32 r] w fun e w' => e = .returned (.bool (Lib.validRune r)) ∧ w' = w := Any.utf8_ValidRune Tryz.lays119 r w
def Tryz.lays125_ren : Go.Shelf.Ren := ⟨fun | 125 => 326 | 128 => 356 | 129 => 357 | n => n, fun | 46 => 339 | 3 => 3 | 51 => 353 | 53 => 373 | 4 => 4 | 5 => 5 | 9 => 9 | n => n, fun | n => n⟩
theorem Tryz.lays125 : Go.Proofs.Lays.n125 Tryz.prog Tryz.lays125_ren := {
 mixed := by kernel_rfl
 f125 := Tryz.func326.trans (congrArg some (by kernel_rfl))
 f128 := Tryz.func356.trans (congrArg some (by kernel_rfl))
 f129 := Tryz.func357.trans (congrArg some (by kernel_rfl))
 t3 := Tryz.underlying3
 a3 := Tryz.isAgg3
 z3 := Tryz.sizeOf3
 v3 := Tryz.zeroValue3
 t4 := Tryz.underlying4
 a4 := Tryz.isAgg4
 z4 := Tryz.sizeOf4
 v4 := Tryz.zeroValue4
 t5 := Tryz.underlying5
 a5 := Tryz.isAgg5
 z5 := Tryz.sizeOf5
 v5 := Tryz.zeroValue5
 t9 := Tryz.underlying9
 a9 := Tryz.isAgg9
 z9 := Tryz.sizeOf9
 v9 := Tryz.zeroValue9
 t46 := Tryz.underlying339
 a46 := Tryz.isAgg339
 z46 := Tryz.sizeOf339
 v46 := Tryz.zeroValue339
 t51 := Tryz.underlying353
 a51 := Tryz.isAgg353
 z51 := Tryz.sizeOf353
 v51 := Tryz.zeroValue353
 t53 := Tryz.underlying373
 a53 := Tryz.isAgg373
 z53 := Tryz.sizeOf373
 v53 := Tryz.zeroValue373 }
theorem Tryz.bits_Len (x : Int) (w : World) (h0 : 0 ≤ x) (h1 : x ≤ 18446744073709551615) :
  Calls Tryz.prog 326 #[.int .u64 x] w fun e w' => e = .returned (.int .i64 (Lib.bitLen x.toNat)) ∧ w' = w := Any.bits_Len Tryz.lays125 x w h0 h1
def Tryz.lays106_ren : Go.Shelf.Ren := ⟨fun | 106 => 327 | 213 => 358 | 265 => 372 | n => n, fun | 9 => 9 | 3 => 3 | n => n, fun | n => n⟩
theorem Tryz.lays106 : Go.Proofs.Lays.n106 Tryz.prog Tryz.lays106_ren := {
 mixed := by kernel_rfl
 f106 := Tryz.func327.trans (congrArg some (by kernel_rfl))
 f213 := Tryz.func358.trans (congrArg some (by kernel_rfl))
 f265 := Tryz.func372.trans (congrArg some (by kernel_rfl))
 t3 := Tryz.underlying3
 a3 := Tryz.isAgg3
 z3 := Tryz.sizeOf3
 v3 := Tryz.zeroValue3
 t9 := Tryz.underlying9
 a9 := Tryz.isAgg9
 z9 := Tryz.sizeOf9
 v9 := Tryz.zeroValue9 }
open Go.RowKit in
theorem Tryz.strings_Compare (a b : ByteArray) (w : World) :
  Calls Tryz.prog 327 #[.string a, .string b] w fun e w' => e = .returned (.int .i64 (Lib.compareBytes a.data.toList b.data.toList)) ∧ w' = w := Any.strings_Compare Tryz.lays106 a b w
def Tryz.lays137_ren : Go.Shelf.Ren := ⟨fun | 137 => 241 | 217 => 297 | 266 => 331 | n => n, fun | 9 => 9 | 5 => 5 | 3 => 3 | n => n, fun | n => n⟩
theorem Tryz.lays137 : Go.Proofs.Lays.n137 Tryz.prog Tryz.lays137_ren := {
 mixed := by kernel_rfl
 f137 := Tryz.func241.trans (congrArg some (by kernel_rfl))
 f217 := Tryz.func297.trans (congrArg some (by kernel_rfl))
 f266 := Tryz.func331.trans (congrArg some (by kernel_rfl))
 t3 := Tryz.underlying3
 a3 := Tryz.isAgg3
 z3 := Tryz.sizeOf3
 v3 := Tryz.zeroValue3
 t5 := Tryz.underlying5
 a5 := Tryz.isAgg5
 z5 := Tryz.sizeOf5
 v5 := Tryz.zeroValue5
 t9 := Tryz.underlying9
 a9 := Tryz.isAgg9
 z9 := Tryz.sizeOf9
 v9 := Tryz.zeroValue9 }
open Go.RowKit in
theorem Tryz.strings_IndexByte (s : ByteArray) (c : Int) (w : World) :
  Calls Tryz.prog 241 #[.string s, .int .u8 c] w fun e w' => e = .returned (.int .i64 (Lib.indexByte s.data.toList c.toNat.toUInt8)) ∧ w' = w := Any.strings_IndexByte Tryz.lays137 s c w
def Tryz.lays103_ren : Go.Shelf.Ren := ⟨fun | 103 => 304 | 210 => 333 | 206 => 123 | n => n, fun | 9 => 9 | 4 => 4 | 24 => 138 | 3 => 3 | n => n, fun | n => n⟩
theorem Tryz.lays103 : Go.Proofs.Lays.n103 Tryz.prog Tryz.lays103_ren := {
 mixed := by kernel_rfl
 f103 := Tryz.func304.trans (congrArg some (by kernel_rfl))
 f206 := Tryz.func123.trans (congrArg some (by kernel_rfl))
 f210 := Tryz.func333.trans (congrArg some (by kernel_rfl))
 t3 := Tryz.underlying3
 a3 := Tryz.isAgg3
 z3 := Tryz.sizeOf3
 v3 := Tryz.zeroValue3
 t4 := Tryz.underlying4
 a4 := Tryz.isAgg4
 z4 := Tryz.sizeOf4
 v4 := Tryz.zeroValue4
 t9 := Tryz.underlying9
 a9 := Tryz.isAgg9
 z9 := Tryz.sizeOf9
 v9 := Tryz.zeroValue9
 t24 := Tryz.underlying138
 a24 := Tryz.isAgg138
 z24 := Tryz.sizeOf138
 v24 := Tryz.zeroValue138 }
open Go.RowKit in
theorem Tryz.strings_CutPrefix (s p : ByteArray) (w : World) :
  Calls Tryz.prog 304 #[.string s, .string p] w fun e w' => e = .returned (.tuple #[.string ⟨(Lib.trimPrefix s.data.toList p.data.toList).toArray⟩, .bool (Lib.hasPrefix s.data.toList p.data.toList)]) ∧ w' = w := Any.strings_CutPrefix Tryz.lays103 s p w
def Tryz.laysM316_ren : Go.Shelf.Ren := ⟨fun | 316 => 298 | n => n, fun | 9 => 9 | 3 => 3 | 4 => 4 | 37 => 228 | 0 => 0 | 127 => 278 | 5 => 5 | n => n, fun | n => n⟩
theorem Tryz.laysM316 : Go.Proofs.LaysM.n316 Tryz.prog Tryz.laysM316_ren := {
 mixed := by kernel_rfl
 f316 := Tryz.func298.trans (congrArg some (by kernel_rfl))
 t0 := Tryz.underlying0
 a0 := Tryz.isAgg0
 z0 := Tryz.sizeOf0
 v0 := Tryz.zeroValue0
 t3 := Tryz.underlying3
 a3 := Tryz.isAgg3
 z3 := Tryz.sizeOf3
 v3 := Tryz.zeroValue3
 t4 := Tryz.underlying4
 a4 := Tryz.isAgg4
 z4 := Tryz.sizeOf4
 v4 := Tryz.zeroValue4
 t9 := Tryz.underlying9
 a9 := Tryz.isAgg9
 z9 := Tryz.sizeOf9
 v9 := Tryz.zeroValue9
 t37 := Tryz.underlying228
 a37 := Tryz.isAgg228
 z37 := Tryz.sizeOf228
 v37 := Tryz.zeroValue228
 t127 := Tryz.underlying278
 a127 := Tryz.isAgg278
 z127 := Tryz.sizeOf278
 v127 := Tryz.zeroValue278
 t5 := Tryz.underlying5
 a5 := Tryz.isAgg5
 z5 := Tryz.sizeOf5
 v5 := Tryz.zeroValue5
 i0 := by kernel_rfl
 i3 := by kernel_rfl
 i4 := by kernel_rfl
 i5 := by kernel_rfl
 i9 := by kernel_rfl
 i37 := by kernel_rfl
 i127 := by kernel_rfl }
open Go.RowKit in
theorem Tryz.stringslite_Clone (s : ByteArray) (w : World) (hlim : s.size ≤ 281474976710656) :
  Calls Tryz.prog 298 #[.string s] w fun e w' => e = .returned (.string s) ∧ Below w.heap.size w w' := Any.stringslite_Clone Tryz.laysM316 s w hlim
def Tryz.lays144_ren : Go.Shelf.Ren := ⟨fun | 144 => 245 | 143 => 219 | 219 => 262 | 217 => 297 | 225 => 307 | 224 => 308 | 267 => 309 | 266 => 331 | 314 => 339 | n => n, fun | 9 => 9 | 4 => 4 | 3 => 3 | 5 => 5 | 46 => 339 | 146 => 354 | 51 => 353 | n => n, fun | 1 => 0 | n => n⟩
theorem Tryz.lays144 : Go.Proofs.Lays.n144 Tryz.prog Tryz.lays144_ren := {
 mixed := by kernel_rfl
 f143 := Tryz.func219.trans (congrArg some (by kernel_rfl))
 f144 := Tryz.func245.trans (congrArg some (by kernel_rfl))
 f217 := Tryz.func297.trans (congrArg some (by kernel_rfl))
 f219 := Tryz.func262.trans (congrArg some (by kernel_rfl))
 f224 := Tryz.func308.trans (congrArg some (by kernel_rfl))
 f225 := Tryz.func307.trans (congrArg some (by kernel_rfl))
 f266 := Tryz.func331.trans (congrArg some (by kernel_rfl))
 f267 := Tryz.func309.trans (congrArg some (by kernel_rfl))
 f314 := Tryz.func339.trans (congrArg some (by kernel_rfl))
 t3 := Tryz.underlying3
 a3 := Tryz.isAgg3
 z3 := Tryz.sizeOf3
 v3 := Tryz.zeroValue3
 t4 := Tryz.underlying4
 a4 := Tryz.isAgg4
 z4 := Tryz.sizeOf4
 v4 := Tryz.zeroValue4
 t5 := Tryz.underlying5
 a5 := Tryz.isAgg5
 z5 := Tryz.sizeOf5
 v5 := Tryz.zeroValue5
 t9 := Tryz.underlying9
 a9 := Tryz.isAgg9
 z9 := Tryz.sizeOf9
 v9 := Tryz.zeroValue9
 t46 := Tryz.underlying339
 a46 := Tryz.isAgg339
 z46 := Tryz.sizeOf339
 v46 := Tryz.zeroValue339
 t51 := Tryz.underlying353
 a51 := Tryz.isAgg353
 z51 := Tryz.sizeOf353
 v51 := Tryz.zeroValue353
 t146 := Tryz.underlying354
 a146 := Tryz.isAgg354
 z146 := Tryz.sizeOf354
 v146 := Tryz.zeroValue354
 g1 := by kernel_rfl }
open Go.RowKit Go.Lib in
theorem Tryz.strings_Contains (s sub : ByteArray) (m : Int) (w : World) (hs : s.size < 4294967281) (hm : w.cell? ⟨0, 0, none⟩ = some (.int .i64 m)) :
  Calls Tryz.prog 245 #[.string s, .string sub] w fun e w' => e = .returned (.bool (Lib.contains s.data.toList sub.data.toList)) ∧ w' = w := Any.strings_Contains Tryz.lays144 s sub m w hs hm
def Tryz.lays145_ren : Go.Shelf.Ren := ⟨fun | 145 => 121 | 220 => 216 | 219 => 262 | 217 => 297 | 225 => 307 | 224 => 308 | 267 => 309 | 266 => 331 | 314 => 339 | n => n, fun | 9 => 9 | 4 => 4 | 59 => 136 | 3 => 3 | 5 => 5 | 46 => 339 | 146 => 354 | 51 => 353 | n => n, fun | 1 => 0 | n => n⟩
theorem Tryz.lays145 : Go.Proofs.Lays.n145 Tryz.prog Tryz.lays145_ren := {
 mixed := by kernel_rfl
 f145 := Tryz.func121.trans (congrArg some (by kernel_rfl))
 f217 := Tryz.func297.trans (congrArg some (by kernel_rfl))
 f219 := Tryz.func262.trans (congrArg some (by kernel_rfl))
 f220 := Tryz.func216.trans (congrArg some (by kernel_rfl))
 f224 := Tryz.func308.trans (congrArg some (by kernel_rfl))
 f225 := Tryz.func307.trans (congrArg some (by kernel_rfl))
 f266 := Tryz.func331.trans (congrArg some (by kernel_rfl))
 f267 := Tryz.func309.trans (congrArg some (by kernel_rfl))
 f314 := Tryz.func339.trans (congrArg some (by kernel_rfl))
 t3 := Tryz.underlying3
 a3 := Tryz.isAgg3
 z3 := Tryz.sizeOf3
 v3 := Tryz.zeroValue3
 t4 := Tryz.underlying4
 a4 := Tryz.isAgg4
 z4 := Tryz.sizeOf4
 v4 := Tryz.zeroValue4
 t5 := Tryz.underlying5
 a5 := Tryz.isAgg5
 z5 := Tryz.sizeOf5
 v5 := Tryz.zeroValue5
 t9 := Tryz.underlying9
 a9 := Tryz.isAgg9
 z9 := Tryz.sizeOf9
 v9 := Tryz.zeroValue9
 t46 := Tryz.underlying339
 a46 := Tryz.isAgg339
 z46 := Tryz.sizeOf339
 v46 := Tryz.zeroValue339
 t51 := Tryz.underlying353
 a51 := Tryz.isAgg353
 z51 := Tryz.sizeOf353
 v51 := Tryz.zeroValue353
 t59 := Tryz.underlying136
 a59 := Tryz.isAgg136
 z59 := Tryz.sizeOf136
 v59 := Tryz.zeroValue136
 t146 := Tryz.underlying354
 a146 := Tryz.isAgg354
 z146 := Tryz.sizeOf354
 v146 := Tryz.zeroValue354
 g1 := by kernel_rfl }
open Go.RowKit Go.Lib in
theorem Tryz.strings_Cut (s sep : ByteArray) (m : Int) (w : World) (hs : s.size < 4294967281) (hm : w.cell? ⟨0, 0, none⟩ = some (.int .i64 m)) :
  Calls Tryz.prog 121 #[.string s, .string sep] w fun e w' => e = .returned (.tuple #[.string ⟨(Lib.cut s.data.toList sep.data.toList).1.toArray⟩, .string ⟨(Lib.cut s.data.toList sep.data.toList).2.1.toArray⟩, .bool (Lib.cut s.data.toList sep.data.toList).2.2]) ∧ ∃ n, w' = w.drewN n := Any.strings_Cut Tryz.lays145 s sep m w hs hm
def Tryz.lays99_ren : Go.Shelf.Ren := ⟨fun | 99 => 22 | 206 => 123 | n => n, fun | 9 => 9 | 4 => 4 | 3 => 3 | n => n, fun | n => n⟩
theorem Tryz.lays99 : Go.Proofs.Lays.n99 Tryz.prog Tryz.lays99_ren := {
 mixed := by kernel_rfl
 f99 := Tryz.func22.trans (congrArg some (by kernel_rfl))
 f206 := Tryz.func123.trans (congrArg some (by kernel_rfl))
 t3 := Tryz.underlying3
 a3 := Tryz.isAgg3
 z3 := Tryz.sizeOf3
 v3 := Tryz.zeroValue3
 t4 := Tryz.underlying4
 a4 := Tryz.isAgg4
 z4 := Tryz.sizeOf4
 v4 := Tryz.zeroValue4
 t9 := Tryz.underlying9
 a9 := Tryz.isAgg9
 z9 := Tryz.sizeOf9
 v9 := Tryz.zeroValue9 }
open Go.RowKit Go.Lib in
theorem Tryz.strings_HasPrefix (s p : ByteArray) (w : World) :
  Calls Tryz.prog 22 #[.string s, .string p] w fun e w' => e = .returned (.bool (Lib.hasPrefix s.data.toList p.data.toList)) ∧ w' = w := Any.strings_HasPrefix Tryz.lays99 s p w
def Tryz.lays101_ren : Go.Shelf.Ren := ⟨fun | 101 => 24 | 208 => 125 | 206 => 123 | n => n, fun | 9 => 9 | 4 => 4 | 3 => 3 | n => n, fun | n => n⟩
theorem Tryz.lays101 : Go.Proofs.Lays.n101 Tryz.prog Tryz.lays101_ren := {
 mixed := by kernel_rfl
 f101 := Tryz.func24.trans (congrArg some (by kernel_rfl))
 f206 := Tryz.func123.trans (congrArg some (by kernel_rfl))
 f208 := Tryz.func125.trans (congrArg some (by kernel_rfl))
 t3 := Tryz.underlying3
 a3 := Tryz.isAgg3
 z3 := Tryz.sizeOf3
 v3 := Tryz.zeroValue3
 t4 := Tryz.underlying4
 a4 := Tryz.isAgg4
 z4 := Tryz.sizeOf4
 v4 := Tryz.zeroValue4
 t9 := Tryz.underlying9
 a9 := Tryz.isAgg9
 z9 := Tryz.sizeOf9
 v9 := Tryz.zeroValue9 }
open Go.RowKit Go.Lib in
theorem Tryz.strings_TrimPrefix (s p : ByteArray) (w : World) :
  Calls Tryz.prog 24 #[.string s, .string p] w fun e w' => e = .returned (.string ⟨(Lib.trimPrefix s.data.toList p.data.toList).toArray⟩) ∧ w' = w := Any.strings_TrimPrefix Tryz.lays101 s p w
def Tryz.lays146_ren : Go.Shelf.Ren := ⟨fun | 146 => 23 | 221 => 124 | 268 => 217 | 138 => 218 | 143 => 219 | 195 => 263 | 197 => 264 | 218 => 265 | 219 => 262 | 260 => 310 | 217 => 297 | 225 => 307 | 224 => 308 | 267 => 309 | 266 => 331 | 314 => 339 | n => n, fun | 9 => 9 | 31 => 44 | 3 => 3 | 4 => 4 | 0 => 0 | 105 => 305 | 21 => 21 | 5 => 5 | 46 => 339 | 119 => 356 | 139 => 359 | 138 => 358 | 146 => 354 | 51 => 353 | n => n, fun | 1 => 0 | 3 => 1 | 4 => 2 | n => n⟩
theorem Tryz.lays146 : Go.Proofs.Lays.n146 Tryz.prog Tryz.lays146_ren := {
 mixed := by kernel_rfl
 f138 := Tryz.func218.trans (congrArg some (by kernel_rfl))
 f143 := Tryz.func219.trans (congrArg some (by kernel_rfl))
 f146 := Tryz.func23.trans (congrArg some (by kernel_rfl))
 f195 := Tryz.func263.trans (congrArg some (by kernel_rfl))
 f197 := Tryz.func264.trans (congrArg some (by kernel_rfl))
 f217 := Tryz.func297.trans (congrArg some (by kernel_rfl))
 f218 := Tryz.func265.trans (congrArg some (by kernel_rfl))
 f219 := Tryz.func262.trans (congrArg some (by kernel_rfl))
 f221 := Tryz.func124.trans (congrArg some (by kernel_rfl))
 f224 := Tryz.func308.trans (congrArg some (by kernel_rfl))
 f225 := Tryz.func307.trans (congrArg some (by kernel_rfl))
 f260 := Tryz.func310.trans (congrArg some (by kernel_rfl))
 f266 := Tryz.func331.trans (congrArg some (by kernel_rfl))
 f267 := Tryz.func309.trans (congrArg some (by kernel_rfl))
 f268 := Tryz.func217.trans (congrArg some (by kernel_rfl))
 f314 := Tryz.func339.trans (congrArg some (by kernel_rfl))
 t0 := Tryz.underlying0
 a0 := Tryz.isAgg0
 z0 := Tryz.sizeOf0
 v0 := Tryz.zeroValue0
 t3 := Tryz.underlying3
 a3 := Tryz.isAgg3
 z3 := Tryz.sizeOf3
 v3 := Tryz.zeroValue3
 t4 := Tryz.underlying4
 a4 := Tryz.isAgg4
 z4 := Tryz.sizeOf4
 v4 := Tryz.zeroValue4
 t5 := Tryz.underlying5
 a5 := Tryz.isAgg5
 z5 := Tryz.sizeOf5
 v5 := Tryz.zeroValue5
 t9 := Tryz.underlying9
 a9 := Tryz.isAgg9
 z9 := Tryz.sizeOf9
 v9 := Tryz.zeroValue9
 t21 := Tryz.underlying21
 a21 := Tryz.isAgg21
 z21 := Tryz.sizeOf21
 v21 := Tryz.zeroValue21
 t31 := Tryz.underlying44
 a31 := Tryz.isAgg44
 z31 := Tryz.sizeOf44
 v31 := Tryz.zeroValue44
 t46 := Tryz.underlying339
 a46 := Tryz.isAgg339
 z46 := Tryz.sizeOf339
 v46 := Tryz.zeroValue339
 t51 := Tryz.underlying353
 a51 := Tryz.isAgg353
 z51 := Tryz.sizeOf353
 v51 := Tryz.zeroValue353
 t105 := Tryz.underlying305
 a105 := Tryz.isAgg305
 z105 := Tryz.sizeOf305
 v105 := Tryz.zeroValue305
 t119 := Tryz.underlying356
 a119 := Tryz.isAgg356
 z119 := Tryz.sizeOf356
 t138 := Tryz.underlying358
 a138 := Tryz.isAgg358
 z138 := Tryz.sizeOf358
 v138 := Tryz.zeroValue358
 t139 := Tryz.underlying359
 a139 := Tryz.isAgg359
 z139 := Tryz.sizeOf359
 v139 := Tryz.zeroValue359
 t146 := Tryz.underlying354
 a146 := Tryz.isAgg354
 z146 := Tryz.sizeOf354
 v146 := Tryz.zeroValue354
 g1 := by kernel_rfl
 g3 := by kernel_rfl
 g4 := by kernel_rfl }
open Go.RowKit Go.Lib in
theorem Tryz.strings_Split (s sep : ByteArray) (m : Int) (w : World) (hs : s.size < 4294967281) (hm : w.cell? ⟨0, 0, none⟩ = some (.int .i64 m)) (h1 : 1 ≤ sep.size) :
  Calls Tryz.prog 23 #[.string s, .string sep] w fun e w' =>
   e = .returned (.slice (some ⟨w.heap.size, 0, none⟩) (Lib.countB s sep + 1) (Lib.countB s sep + 1)) ∧ w' = w.alloc (.cells ((Lib.splitB sep 0 (Lib.countB s sep) s).map Value.string).toArray 9) := Any.strings_Split Tryz.lays146 (by kernel_rfl) s sep m w hs hm h1
def Tryz.lays155_ren : Go.Shelf.Ren := ⟨fun | 155 => 178 | 154 => 230 | 138 => 218 | 165 => 179 | 143 => 219 | 166 => 180 | 197 => 264 | 169 => 181 | 195 => 263 | 218 => 265 | 240 => 231 | 241 => 232 | 219 => 262 | 260 => 310 | 276 => 281 | 277 => 282 | 217 => 297 | 225 => 307 | 224 => 308 | 267 => 309 | 266 => 331 | 314 => 339 | n => n, fun | 9 => 9 | 3 => 3 | 4 => 4 | 72 => 230 | 0 => 0 | 76 => 234 | 105 => 305 | 21 => 21 | 5 => 5 | 70 => 227 | 20 => 20 | 37 => 228 | 75 => 233 | 127 => 278 | 164 => 314 | 46 => 339 | 119 => 356 | 139 => 359 | 138 => 358 | 146 => 354 | 51 => 353 | 80 => 236 | n => n, fun | 1 => 0 | 3 => 1 | 4 => 2 | n => n⟩
theorem Tryz.lays155 : Go.Proofs.Lays.n155 Tryz.prog Tryz.lays155_ren := {
 mixed := by kernel_rfl
 f138 := Tryz.func218.trans (congrArg some (by kernel_rfl))
 f143 := Tryz.func219.trans (congrArg some (by kernel_rfl))
 f154 := Tryz.func230.trans (congrArg some (by kernel_rfl))
 f155 := Tryz.func178.trans (congrArg some (by kernel_rfl))
 f165 := Tryz.func179.trans (congrArg some (by kernel_rfl))
 f166 := Tryz.func180.trans (congrArg some (by kernel_rfl))
 f169 := Tryz.func181.trans (congrArg some (by kernel_rfl))
 f195 := Tryz.func263.trans (congrArg some (by kernel_rfl))
 f197 := Tryz.func264.trans (congrArg some (by kernel_rfl))
 f217 := Tryz.func297.trans (congrArg some (by kernel_rfl))
 f218 := Tryz.func265.trans (congrArg some (by kernel_rfl))
 f219 := Tryz.func262.trans (congrArg some (by kernel_rfl))
 f224 := Tryz.func308.trans (congrArg some (by kernel_rfl))
 f225 := Tryz.func307.trans (congrArg some (by kernel_rfl))
 f240 := Tryz.func231.trans (congrArg some (by kernel_rfl))
 f241 := Tryz.func232.trans (congrArg some (by kernel_rfl))
 f260 := Tryz.func310.trans (congrArg some (by kernel_rfl))
 f266 := Tryz.func331.trans (congrArg some (by kernel_rfl))
 f267 := Tryz.func309.trans (congrArg some (by kernel_rfl))
 f276 := Tryz.func281.trans (congrArg some (by kernel_rfl))
 f277 := Tryz.func282.trans (congrArg some (by kernel_rfl))
 f314 := Tryz.func339.trans (congrArg some (by kernel_rfl))
 t0 := Tryz.underlying0
 a0 := Tryz.isAgg0
 z0 := Tryz.sizeOf0
 v0 := Tryz.zeroValue0
 t3 := Tryz.underlying3
 a3 := Tryz.isAgg3
 z3 := Tryz.sizeOf3
 v3 := Tryz.zeroValue3
 t4 := Tryz.underlying4
 a4 := Tryz.isAgg4
 z4 := Tryz.sizeOf4
 v4 := Tryz.zeroValue4
 t5 := Tryz.underlying5
 a5 := Tryz.isAgg5
 z5 := Tryz.sizeOf5
 v5 := Tryz.zeroValue5
 t9 := Tryz.underlying9
 a9 := Tryz.isAgg9
 z9 := Tryz.sizeOf9
 v9 := Tryz.zeroValue9
 t20 := Tryz.underlying20
 a20 := Tryz.isAgg20
 z20 := Tryz.sizeOf20
 v20 := Tryz.zeroValue20
 t21 := Tryz.underlying21
 a21 := Tryz.isAgg21
 z21 := Tryz.sizeOf21
 v21 := Tryz.zeroValue21
 t37 := Tryz.underlying228
 a37 := Tryz.isAgg228
 z37 := Tryz.sizeOf228
 v37 := Tryz.zeroValue228
 t46 := Tryz.underlying339
 a46 := Tryz.isAgg339
 z46 := Tryz.sizeOf339
 v46 := Tryz.zeroValue339
 t51 := Tryz.underlying353
 a51 := Tryz.isAgg353
 z51 := Tryz.sizeOf353
 v51 := Tryz.zeroValue353
 t70 := Tryz.underlying227
 a70 := Tryz.isAgg227
 z70 := Tryz.sizeOf227
 v70 := Tryz.zeroValue227
 t72 := Tryz.underlying230
 a72 := Tryz.isAgg230
 z72 := Tryz.sizeOf230
 v72 := Tryz.zeroValue230
 t75 := Tryz.underlying233
 a75 := Tryz.isAgg233
 z75 := Tryz.sizeOf233
 v75 := Tryz.zeroValue233
 t76 := Tryz.underlying234
 a76 := Tryz.isAgg234
 z76 := Tryz.sizeOf234
 v76 := Tryz.zeroValue234
 t105 := Tryz.underlying305
 a105 := Tryz.isAgg305
 z105 := Tryz.sizeOf305
 v105 := Tryz.zeroValue305
 t119 := Tryz.underlying356
 a119 := Tryz.isAgg356
 z119 := Tryz.sizeOf356
 t127 := Tryz.underlying278
 a127 := Tryz.isAgg278
 z127 := Tryz.sizeOf278
 v127 := Tryz.zeroValue278
 t138 := Tryz.underlying358
 a138 := Tryz.isAgg358
 z138 := Tryz.sizeOf358
 v138 := Tryz.zeroValue358
 t139 := Tryz.underlying359
 a139 := Tryz.isAgg359
 z139 := Tryz.sizeOf359
 v139 := Tryz.zeroValue359
 t146 := Tryz.underlying354
 a146 := Tryz.isAgg354
 z146 := Tryz.sizeOf354
 v146 := Tryz.zeroValue354
 t164 := Tryz.underlying314
 a164 := Tryz.isAgg314
 z164 := Tryz.sizeOf314
 v164 := Tryz.zeroValue314
 g1 := by kernel_rfl
 g3 := by kernel_rfl
 g4 := by kernel_rfl }
theorem Tryz.Builder_Extra_155 : Builder.Extra Tryz.prog Tryz.lays155_ren := {
 sizeBuilder := by kernel_rfl
 liesBuilder := by kernel_rfl
 t5 := Tryz.underlying5
 a5 := Tryz.isAgg5
 z5 := Tryz.sizeOf5
 v5 := Tryz.zeroValue5
 infoByte := by kernel_rfl
 cellsByte := by kernel_rfl
 sizeByte := by kernel_rfl
 neB5 := by decide }
open Go.RowKit Go.Lib in
theorem Tryz.strings_ReplaceAll (s old new : ByteArray) (m : Int) (w : World) (hs : s.size < 4294967281) (hm : w.cell? ⟨0, 0, none⟩ = some (.int .i64 m)) (h1 : 1 ≤ old.size) (hlen : s.size + Lib.countB s old * new.size ≤ 140737488355328) :
  Calls Tryz.prog 178 #[.string s, .string old, .string new] w fun e w' =>
   e = .returned (.string ⟨(Lib.replaceAll s.data.toList old.data.toList new.data.toList).toArray⟩) ∧ Below w.heap.size w w' := Any.strings_ReplaceAll Tryz.lays155 Tryz.Builder_Extra_155 s old new m w hs hm h1 hlen
def Tryz.lays152_ren : Go.Shelf.Ren := ⟨fun | 152 => 299 | 137 => 241 | 119 => 332 | 224 => 308 | 225 => 307 | 217 => 297 | 266 => 331 | n => n, fun | 9 => 9 | 21 => 21 | 3 => 3 | 4 => 4 | 5 => 5 | 0 => 0 | 46 => 339 | n => n, fun | n => n⟩
theorem Tryz.lays152 : Go.Proofs.Lays.n152 Tryz.prog Tryz.lays152_ren := {
 mixed := by kernel_rfl
 f119 := Tryz.func332.trans (congrArg some (by kernel_rfl))
 f137 := Tryz.func241.trans (congrArg some (by kernel_rfl))
 f152 := Tryz.func299.trans (congrArg some (by kernel_rfl))
 f217 := Tryz.func297.trans (congrArg some (by kernel_rfl))
 f224 := Tryz.func308.trans (congrArg some (by kernel_rfl))
 f225 := Tryz.func307.trans (congrArg some (by kernel_rfl))
 f266 := Tryz.func331.trans (congrArg some (by kernel_rfl))
 t0 := Tryz.underlying0
 a0 := Tryz.isAgg0
 z0 := Tryz.sizeOf0
 v0 := Tryz.zeroValue0
 t3 := Tryz.underlying3
 a3 := Tryz.isAgg3
 z3 := Tryz.sizeOf3
 v3 := Tryz.zeroValue3
 t4 := Tryz.underlying4
 a4 := Tryz.isAgg4
 z4 := Tryz.sizeOf4
 v4 := Tryz.zeroValue4
 t5 := Tryz.underlying5
 a5 := Tryz.isAgg5
 z5 := Tryz.sizeOf5
 v5 := Tryz.zeroValue5
 t9 := Tryz.underlying9
 a9 := Tryz.isAgg9
 z9 := Tryz.sizeOf9
 v9 := Tryz.zeroValue9
 t21 := Tryz.underlying21
 a21 := Tryz.isAgg21
 z21 := Tryz.sizeOf21
 v21 := Tryz.zeroValue21
 t46 := Tryz.underlying339
 a46 := Tryz.isAgg339
 z46 := Tryz.sizeOf339
 v46 := Tryz.zeroValue339 }
open Go.RowKit Go.Lib in
theorem Tryz.strings_IndexRune_ascii (s : ByteArray) (r : Int) (w : World) (h0 : 0 ≤ r) (h1 : r < 128) :
  Calls Tryz.prog 299 #[.string s, .int .i32 r] w fun e w' => e = .returned (.int .i64 (Lib.indexByte s.data.toList r.toNat.toUInt8)) ∧ w' = w := Any.strings_IndexRune_ascii Tryz.lays152 s r w h0 h1
def Tryz.lays226_ren : Go.Shelf.Ren := ⟨fun | 226 => 300 | n => n, fun | 3 => 3 | 4 => 4 | n => n, fun | n => n⟩
theorem Tryz.lays226 : Go.Proofs.Lays.n226 Tryz.prog Tryz.lays226_ren := {
 mixed := by kernel_rfl
 f226 := Tryz.func300.trans (congrArg some (by kernel_rfl))
 t3 := Tryz.underlying3
 a3 := Tryz.isAgg3
 z3 := Tryz.sizeOf3
 v3 := Tryz.zeroValue3
 t4 := Tryz.underlying4
 a4 := Tryz.isAgg4
 z4 := Tryz.sizeOf4
 v4 := Tryz.zeroValue4 }
open Go.RowKit Go.Lib in
theorem Tryz.strings_shouldUseASCIISet (n : Int) (w : World) :
  Calls Tryz.prog 300 #[.int .i64 n] w fun e w' => e = .returned (.bool (decide (8 < n))) ∧ w' = w := Any.strings_shouldUseASCIISet Tryz.lays226 n w
def Tryz.lays153_ren : Go.Shelf.Ren := ⟨fun | 153 => 243 | 152 => 299 | 226 => 300 | 227 => 268 | 228 => 301 | 137 => 241 | 119 => 332 | 224 => 308 | 225 => 307 | 217 => 297 | 266 => 331 | n => n, fun | 9 => 9 | 3 => 3 | 4 => 4 | 5 => 5 | 21 => 21 | 117 => 310 | 116 => 309 | 0 => 0 | 46 => 339 | 124 => 313 | n => n, fun | n => n⟩
theorem Tryz.lays153 : Go.Proofs.Lays.n153 Tryz.prog Tryz.lays153_ren := {
 mixed := by kernel_rfl
 f119 := Tryz.func332.trans (congrArg some (by kernel_rfl))
 f137 := Tryz.func241.trans (congrArg some (by kernel_rfl))
 f152 := Tryz.func299.trans (congrArg some (by kernel_rfl))
 f153 := Tryz.func243.trans (congrArg some (by kernel_rfl))
 f217 := Tryz.func297.trans (congrArg some (by kernel_rfl))
 f224 := Tryz.func308.trans (congrArg some (by kernel_rfl))
 f225 := Tryz.func307.trans (congrArg some (by kernel_rfl))
 f226 := Tryz.func300.trans (congrArg some (by kernel_rfl))
 f227 := Tryz.func268.trans (congrArg some (by kernel_rfl))
 f228 := Tryz.func301.trans (congrArg some (by kernel_rfl))
 f266 := Tryz.func331.trans (congrArg some (by kernel_rfl))
 t0 := Tryz.underlying0
 a0 := Tryz.isAgg0
 z0 := Tryz.sizeOf0
 v0 := Tryz.zeroValue0
 t3 := Tryz.underlying3
 a3 := Tryz.isAgg3
 z3 := Tryz.sizeOf3
 v3 := Tryz.zeroValue3
 t4 := Tryz.underlying4
 a4 := Tryz.isAgg4
 z4 := Tryz.sizeOf4
 v4 := Tryz.zeroValue4
 t5 := Tryz.underlying5
 a5 := Tryz.isAgg5
 z5 := Tryz.sizeOf5
 v5 := Tryz.zeroValue5
 t9 := Tryz.underlying9
 a9 := Tryz.isAgg9
 z9 := Tryz.sizeOf9
 v9 := Tryz.zeroValue9
 t21 := Tryz.underlying21
 a21 := Tryz.isAgg21
 z21 := Tryz.sizeOf21
 v21 := Tryz.zeroValue21
 t46 := Tryz.underlying339
 a46 := Tryz.isAgg339
 z46 := Tryz.sizeOf339
 v46 := Tryz.zeroValue339
 t116 := Tryz.underlying309
 a116 := Tryz.isAgg309
 z116 := Tryz.sizeOf309
 t117 := Tryz.underlying310
 a117 := Tryz.isAgg310
 z117 := Tryz.sizeOf310
 v117 := Tryz.zeroValue310
 t124 := Tryz.underlying313
 a124 := Tryz.isAgg313
 z124 := Tryz.sizeOf313
 v124 := Tryz.zeroValue313 }
open Go.RowKit Go.Lib in
theorem Tryz.strings_IndexAny_long (hv116 : ∀ w, (zeroValue 309).run Tryz.prog w = .ok (.agg (Array.replicate 256 (.bool false))) w) (s chars : ByteArray) (w : World) (h2 : 2 ≤ chars.size) (h8 : 8 < s.size) (hs : s.size < 4294967281) (hcs : chars.size < 4294967281) (hascii : ∀ (j : Nat) b, chars.data.toList[j]? = some b → b.toNat < 128) :
  Calls Tryz.prog 243 #[.string s, .string chars] w fun e w' => e = .returned (.int .i64 (Lib.indexAny s.data.toList chars.data.toList)) ∧ w' = ((w.alloc (.cells (Lib.setCells chars.data.toList) 309)).alloc (.cells (Lib.setCells chars.data.toList) 309)) := Any.strings_IndexAny_long Tryz.lays153 hv116 (by kernel_rfl) s chars w h2 h8 hs hcs hascii
def Tryz.lays196_ren : Go.Shelf.Ren := ⟨fun | 196 => 359 | 259 => 373 | n => n, fun | 9 => 9 | 4 => 4 | 3 => 3 | 5 => 5 | 12 => 12 | 119 => 356 | 0 => 0 | 46 => 339 | 139 => 359 | 138 => 358 | 53 => 373 | n => n, fun | 3 => 1 | 4 => 2 | n => n⟩
theorem Tryz.lays196 : Go.Proofs.Lays.n196 Tryz.prog Tryz.lays196_ren := {
 mixed := by kernel_rfl
 f196 := Tryz.func359.trans (congrArg some (by kernel_rfl))
 f259 := Tryz.func373.trans (congrArg some (by kernel_rfl))
 t0 := Tryz.underlying0
 a0 := Tryz.isAgg0
 z0 := Tryz.sizeOf0
 v0 := Tryz.zeroValue0
 t3 := Tryz.underlying3
 a3 := Tryz.isAgg3
 z3 := Tryz.sizeOf3
 v3 := Tryz.zeroValue3
 t4 := Tryz.underlying4
 a4 := Tryz.isAgg4
 z4 := Tryz.sizeOf4
 v4 := Tryz.zeroValue4
 t5 := Tryz.underlying5
 a5 := Tryz.isAgg5
 z5 := Tryz.sizeOf5
 v5 := Tryz.zeroValue5
 t9 := Tryz.underlying9
 a9 := Tryz.isAgg9
 z9 := Tryz.sizeOf9
 v9 := Tryz.zeroValue9
 t12 := Tryz.underlying12
 a12 := Tryz.isAgg12
 z12 := Tryz.sizeOf12
 v12 := Tryz.zeroValue12
 t46 := Tryz.underlying339
 a46 := Tryz.isAgg339
 z46 := Tryz.sizeOf339
 v46 := Tryz.zeroValue339
 t53 := Tryz.underlying373
 a53 := Tryz.isAgg373
 z53 := Tryz.sizeOf373
 v53 := Tryz.zeroValue373
 t119 := Tryz.underlying356
 a119 := Tryz.isAgg356
 z119 := Tryz.sizeOf356
 t138 := Tryz.underlying358
 a138 := Tryz.isAgg358
 z138 := Tryz.sizeOf358
 v138 := Tryz.zeroValue358
 t139 := Tryz.underlying359
 a139 := Tryz.isAgg359
 z139 := Tryz.sizeOf359
 v139 := Tryz.zeroValue359
 g3 := by kernel_rfl
 g4 := by kernel_rfl }
open Go.RowKit in
theorem Tryz.utf8_ValidString (s : ByteArray) (w : World) (hs : s.size ≤ 9223372036854775807) (hT : Lib.Utf8Tabs (Tryz.lays196_ren.g 3) (Tryz.lays196_ren.g 4) w) :
  Calls Tryz.prog 359 #[.string s] w fun e w' => e = .returned (.bool (Lib.validD s.data.toList)) ∧ Below w.heap.size w w' := Any.utf8_ValidString Tryz.lays196 s w hs hT
open Go.RowKit in
theorem Tryz.strings_Trim_set (s cs : ByteArray) (w : World) (hs : s.size ≤ 9223372036854775807) (hc : cs.size < 4294967281) (ha : ∀ (j : Nat) b, cs.data.toList[j]? = some b → b.toNat < 128) :
  Calls Tryz.prog 220 #[.string s, .string cs] w fun e w' => e = .returned (.string ⟨(Lib.trimS s.data.toList cs.data.toList).toArray⟩) ∧ Below w.heap.size w w' := Any.strings_Trim_laid Tryz.lays160 (by kernel_rfl) s cs w hs hc ha
end Go.Proofs
