/-
 DERIVED: THE SHELF's CONTRACTS AT THIS DUMP, IN PLAIN WORDS (tools/lay-plain.mjs out of 'TryzShelf.lean', which tools/lay-shelf.mjs wrote): THE SAME DECLARATIONS UNDER THE SAME NAMES: 'import', 'namespace', 'open', 'def', 'theorem' AND NOTHING ELSE: no command of the shelf's: FOR A HAND-IN. Each laying: the table of numbers ('.._ren') and one theorem, a field a fact of the dump's own or the kernel's comparison; each contract: ONE APPLICATION.
-/
import Derived.Shelf.Strings.SlTrimAscii
import Derived.Shelf.Unicode.ValidAny
import Derived.Shelf.Strings.Builder1
import Derived.Shelf.Strings.Builder2
import Derived.Shelf.Strings.OnBuilder
import Derived.Shelf.Strings.Trim
import Derived.Shelf.Small.Utf8
import Derived.Shelf.Small.Strs
import Derived.Shelf.Small.Wraps
import Derived.Shelf.Strings.BuilderF
import Derived.Shelf.Strings.BuilderK
import Derived.Shelf.Utf8.RuneCount
import Derived.Shelf.Strconv.Atoi
import Derived.Shelf.Strconv.Itoa0
import Derived.Shelf.Strconv.Itoa1
import Derived.Shelf.LaysM
import Derived.Shelf.Strconv.Itoa2
import Derived.Shelf.Strconv.Itoa3
import Derived.Shelf.Strconv.Clone
import Derived.Shelf.Strings.Search1
import Derived.Shelf.Strings.Search2
import Derived.Shelf.Strings.Search3
import Derived.Shelf.Strings.Count
import Derived.Shelf.Strings.Shaped
import Derived.Shelf.Strings.Prefix
import Derived.Shelf.Strings.Split
import Derived.Shelf.Strings.SplitShaped
import Derived.Shelf.Unicode.Decode
import Derived.Shelf.Strings.Runes
import Derived.Shelf.Strings.RuneCount
import Derived.Shelf.Strings.IndexAny
import Derived.Shelf.Strings.AsciiSet
import Derived.Shelf.Strings.IndexAnyAll
import Derived.Shelf.Strings.Explode
import Derived.Shelf.Unicode.DecodeSlow
import Derived.Shelf.Unicode.DecodeAny
import Derived.Test.YthenffabboomnaaGreatDoorProg
set_option linter.all false
set_option maxHeartbeats 8000000
set_option maxRecDepth 100000
namespace Go.Proofs
open Go.Shelf
def Tryz.lays169_ren : Go.Shelf.Ren := ⟨fun | 169 => 19 | n => n, fun | 70 => 54 | 9 => 9 | 0 => 0 | 72 => 57 | 37 => 55 | 127 => 92 | 3 => 3 | 5 => 5 | n => n, fun | n => n⟩
theorem Tryz.lays169 : Go.Proofs.Lays.n169 Tryz.prog Tryz.lays169_ren := {
 mixed := by kernel_rfl
 f169 := Tryz.func19.trans (congrArg some (by kernel_rfl))
 t0 := Tryz.underlying0
 a0 := Tryz.isAgg0
 z0 := Tryz.sizeOf0
 v0 := Tryz.zeroValue0
 t3 := Tryz.underlying3
 a3 := Tryz.isAgg3
 z3 := Tryz.sizeOf3
 v3 := Tryz.zeroValue3
 t9 := Tryz.underlying9
 a9 := Tryz.isAgg9
 z9 := Tryz.sizeOf9
 v9 := Tryz.zeroValue9
 t37 := Tryz.underlying55
 a37 := Tryz.isAgg55
 z37 := Tryz.sizeOf55
 v37 := Tryz.zeroValue55
 t70 := Tryz.underlying54
 a70 := Tryz.isAgg54
 z70 := Tryz.sizeOf54
 v70 := Tryz.zeroValue54
 t72 := Tryz.underlying57
 a72 := Tryz.isAgg57
 z72 := Tryz.sizeOf57
 v72 := Tryz.zeroValue57
 t127 := Tryz.underlying92
 a127 := Tryz.isAgg92
 z127 := Tryz.sizeOf92
 v127 := Tryz.zeroValue92 }
theorem Tryz.Builder_Extra_169 : Builder.Extra Tryz.prog Tryz.lays169_ren := {
 sizeBuilder := by kernel_rfl
 liesBuilder := by kernel_rfl
 t5 := Tryz.underlying5
 a5 := Tryz.isAgg5
 z5 := Tryz.sizeOf5
 v5 := Tryz.zeroValue5
 infoByte := by kernel_rfl
 cellsByte := by kernel_rfl
 sizeByte := by kernel_rfl
 neB5 := by decide }
def Tryz.lays161_ren : Go.Shelf.Ren := ⟨fun | 161 => 30 | 231 => 23 | 227 => 25 | 233 => 26 | 235 => 28 | 228 => 52 | 197 => 50 | 151 => 53 | 260 => 95 | 152 => 56 | 137 => 99 | 119 => 100 | 224 => 101 | 225 => 102 | 217 => 124 | 266 => 139 | n => n, fun | 9 => 9 | 4 => 4 | 3 => 3 | 5 => 5 | 117 => 71 | 116 => 70 | 0 => 0 | 124 => 74 | 105 => 102 | 21 => 21 | 119 => 165 | 46 => 91 | 139 => 168 | 138 => 167 | n => n, fun | 3 => 0 | 4 => 1 | n => n⟩
theorem Tryz.lays161 : Go.Proofs.Lays.n161 Tryz.prog Tryz.lays161_ren := {
 mixed := by kernel_rfl
 f119 := Tryz.func100.trans (congrArg some (by kernel_rfl))
 f137 := Tryz.func99.trans (congrArg some (by kernel_rfl))
 f151 := Tryz.func53.trans (congrArg some (by kernel_rfl))
 f152 := Tryz.func56.trans (congrArg some (by kernel_rfl))
 f161 := Tryz.func30.trans (congrArg some (by kernel_rfl))
 f197 := Tryz.func50.trans (congrArg some (by kernel_rfl))
 f217 := Tryz.func124.trans (congrArg some (by kernel_rfl))
 f224 := Tryz.func101.trans (congrArg some (by kernel_rfl))
 f225 := Tryz.func102.trans (congrArg some (by kernel_rfl))
 f227 := Tryz.func25.trans (congrArg some (by kernel_rfl))
 f228 := Tryz.func52.trans (congrArg some (by kernel_rfl))
 f231 := Tryz.func23.trans (congrArg some (by kernel_rfl))
 f233 := Tryz.func26.trans (congrArg some (by kernel_rfl))
 f235 := Tryz.func28.trans (congrArg some (by kernel_rfl))
 f260 := Tryz.func95.trans (congrArg some (by kernel_rfl))
 f266 := Tryz.func139.trans (congrArg some (by kernel_rfl))
 t0 := Tryz.underlying0
 a0 := Tryz.isAgg0
 z0 := Tryz.sizeOf0
 v0 := Tryz.zeroValue0
 t3 := Tryz.underlying3
 a3 := Tryz.isAgg3
 z3 := Tryz.sizeOf3
 v3 := Tryz.zeroValue3
 t4 := Tryz.underlying4
 a4 := Tryz.isAgg4
 z4 := Tryz.sizeOf4
 v4 := Tryz.zeroValue4
 t5 := Tryz.underlying5
 a5 := Tryz.isAgg5
 z5 := Tryz.sizeOf5
 v5 := Tryz.zeroValue5
 t9 := Tryz.underlying9
 a9 := Tryz.isAgg9
 z9 := Tryz.sizeOf9
 v9 := Tryz.zeroValue9
 t21 := Tryz.underlying21
 a21 := Tryz.isAgg21
 z21 := Tryz.sizeOf21
 v21 := Tryz.zeroValue21
 t46 := Tryz.underlying91
 a46 := Tryz.isAgg91
 z46 := Tryz.sizeOf91
 v46 := Tryz.zeroValue91
 t105 := Tryz.underlying102
 a105 := Tryz.isAgg102
 z105 := Tryz.sizeOf102
 v105 := Tryz.zeroValue102
 t116 := Tryz.underlying70
 a116 := Tryz.isAgg70
 z116 := Tryz.sizeOf70
 t117 := Tryz.underlying71
 a117 := Tryz.isAgg71
 z117 := Tryz.sizeOf71
 v117 := Tryz.zeroValue71
 t119 := Tryz.underlying165
 a119 := Tryz.isAgg165
 z119 := Tryz.sizeOf165
 t124 := Tryz.underlying74
 a124 := Tryz.isAgg74
 z124 := Tryz.sizeOf74
 v124 := Tryz.zeroValue74
 t138 := Tryz.underlying167
 a138 := Tryz.isAgg167
 z138 := Tryz.sizeOf167
 v138 := Tryz.zeroValue167
 t139 := Tryz.underlying168
 a139 := Tryz.isAgg168
 z139 := Tryz.sizeOf168
 v139 := Tryz.zeroValue168
 g3 := by kernel_rfl
 g4 := by kernel_rfl }
open Go.RowKit in
theorem Tryz.strings_TrimLeft_one (s : ByteArray) (c : UInt8) (hc : c.toNat < 128) (w : World) :
  Calls Tryz.prog 30 #[.string s, .string ⟨#[c]⟩] w fun e w' => e = .returned (.string ⟨(Lib.trimLeftB s.data.toList c).toArray⟩) ∧ w' = w := Any.strings_TrimLeft_one Tryz.lays161 s c hc w
def Tryz.lays160_ren : Go.Shelf.Ren := ⟨fun | 160 => 12 | 232 => 24 | 231 => 23 | 227 => 25 | 234 => 27 | 233 => 26 | 236 => 29 | 235 => 28 | 228 => 52 | 271 => 54 | 151 => 53 | 197 => 50 | 120 => 97 | 152 => 56 | 260 => 95 | 137 => 99 | 119 => 100 | 224 => 101 | 225 => 102 | 217 => 124 | 266 => 139 | n => n, fun | 9 => 9 | 4 => 4 | 3 => 3 | 5 => 5 | 117 => 71 | 116 => 70 | 0 => 0 | 124 => 74 | 21 => 21 | 105 => 102 | 46 => 91 | 119 => 165 | 139 => 168 | 138 => 167 | n => n, fun | 3 => 0 | 4 => 1 | n => n⟩
theorem Tryz.lays160 : Go.Proofs.Lays.n160 Tryz.prog Tryz.lays160_ren := {
 mixed := by kernel_rfl
 f119 := Tryz.func100.trans (congrArg some (by kernel_rfl))
 f120 := Tryz.func97.trans (congrArg some (by kernel_rfl))
 f137 := Tryz.func99.trans (congrArg some (by kernel_rfl))
 f151 := Tryz.func53.trans (congrArg some (by kernel_rfl))
 f152 := Tryz.func56.trans (congrArg some (by kernel_rfl))
 f160 := Tryz.func12.trans (congrArg some (by kernel_rfl))
 f197 := Tryz.func50.trans (congrArg some (by kernel_rfl))
 f217 := Tryz.func124.trans (congrArg some (by kernel_rfl))
 f224 := Tryz.func101.trans (congrArg some (by kernel_rfl))
 f225 := Tryz.func102.trans (congrArg some (by kernel_rfl))
 f227 := Tryz.func25.trans (congrArg some (by kernel_rfl))
 f228 := Tryz.func52.trans (congrArg some (by kernel_rfl))
 f231 := Tryz.func23.trans (congrArg some (by kernel_rfl))
 f232 := Tryz.func24.trans (congrArg some (by kernel_rfl))
 f233 := Tryz.func26.trans (congrArg some (by kernel_rfl))
 f234 := Tryz.func27.trans (congrArg some (by kernel_rfl))
 f235 := Tryz.func28.trans (congrArg some (by kernel_rfl))
 f236 := Tryz.func29.trans (congrArg some (by kernel_rfl))
 f260 := Tryz.func95.trans (congrArg some (by kernel_rfl))
 f266 := Tryz.func139.trans (congrArg some (by kernel_rfl))
 f271 := Tryz.func54.trans (congrArg some (by kernel_rfl))
 t0 := Tryz.underlying0
 a0 := Tryz.isAgg0
 z0 := Tryz.sizeOf0
 v0 := Tryz.zeroValue0
 t3 := Tryz.underlying3
 a3 := Tryz.isAgg3
 z3 := Tryz.sizeOf3
 v3 := Tryz.zeroValue3
 t4 := Tryz.underlying4
 a4 := Tryz.isAgg4
 z4 := Tryz.sizeOf4
 v4 := Tryz.zeroValue4
 t5 := Tryz.underlying5
 a5 := Tryz.isAgg5
 z5 := Tryz.sizeOf5
 v5 := Tryz.zeroValue5
 t9 := Tryz.underlying9
 a9 := Tryz.isAgg9
 z9 := Tryz.sizeOf9
 v9 := Tryz.zeroValue9
 t21 := Tryz.underlying21
 a21 := Tryz.isAgg21
 z21 := Tryz.sizeOf21
 v21 := Tryz.zeroValue21
 t46 := Tryz.underlying91
 a46 := Tryz.isAgg91
 z46 := Tryz.sizeOf91
 v46 := Tryz.zeroValue91
 t105 := Tryz.underlying102
 a105 := Tryz.isAgg102
 z105 := Tryz.sizeOf102
 v105 := Tryz.zeroValue102
 t116 := Tryz.underlying70
 a116 := Tryz.isAgg70
 z116 := Tryz.sizeOf70
 t117 := Tryz.underlying71
 a117 := Tryz.isAgg71
 z117 := Tryz.sizeOf71
 v117 := Tryz.zeroValue71
 t119 := Tryz.underlying165
 a119 := Tryz.isAgg165
 z119 := Tryz.sizeOf165
 t124 := Tryz.underlying74
 a124 := Tryz.isAgg74
 z124 := Tryz.sizeOf74
 v124 := Tryz.zeroValue74
 t138 := Tryz.underlying167
 a138 := Tryz.isAgg167
 z138 := Tryz.sizeOf167
 v138 := Tryz.zeroValue167
 t139 := Tryz.underlying168
 a139 := Tryz.isAgg168
 z139 := Tryz.sizeOf168
 v139 := Tryz.zeroValue168
 g3 := by kernel_rfl
 g4 := by kernel_rfl }
def Tryz.lays119_ren : Go.Shelf.Ren := ⟨fun | 119 => 100 | n => n, fun | 21 => 21 | 4 => 4 | n => n, fun | n => n⟩
theorem Tryz.lays119 : Go.Proofs.Lays.n119 Tryz.prog Tryz.lays119_ren := {
 mixed := by kernel_rfl
 f119 := Tryz.func100.trans (congrArg some (by kernel_rfl))
 t4 := Tryz.underlying4
 a4 := Tryz.isAgg4
 z4 := Tryz.sizeOf4
 v4 := Tryz.zeroValue4
 t21 := Tryz.underlying21
 a21 := Tryz.isAgg21
 z21 := Tryz.sizeOf21
 v21 := Tryz.zeroValue21 }
theorem Tryz.utf8_ValidRune (r : Int) (w : World) :
  Calls Tryz.prog 100 #[.int .i32 r] w fun e w' => e = .returned (.bool (Lib.validRune r)) ∧ w' = w := Any.utf8_ValidRune Tryz.lays119 r w
def Tryz.lays137_ren : Go.Shelf.Ren := ⟨fun | 137 => 99 | 217 => 124 | 266 => 139 | n => n, fun | 9 => 9 | 5 => 5 | 3 => 3 | n => n, fun | n => n⟩
theorem Tryz.lays137 : Go.Proofs.Lays.n137 Tryz.prog Tryz.lays137_ren := {
 mixed := by kernel_rfl
 f137 := Tryz.func99.trans (congrArg some (by kernel_rfl))
 f217 := Tryz.func124.trans (congrArg some (by kernel_rfl))
 f266 := Tryz.func139.trans (congrArg some (by kernel_rfl))
 t3 := Tryz.underlying3
 a3 := Tryz.isAgg3
 z3 := Tryz.sizeOf3
 v3 := Tryz.zeroValue3
 t5 := Tryz.underlying5
 a5 := Tryz.isAgg5
 z5 := Tryz.sizeOf5
 v5 := Tryz.zeroValue5
 t9 := Tryz.underlying9
 a9 := Tryz.isAgg9
 z9 := Tryz.sizeOf9
 v9 := Tryz.zeroValue9 }
open Go.RowKit in
theorem Tryz.strings_IndexByte (s : ByteArray) (c : Int) (w : World) :
  Calls Tryz.prog 99 #[.string s, .int .u8 c] w fun e w' => e = .returned (.int .i64 (Lib.indexByte s.data.toList c.toNat.toUInt8)) ∧ w' = w := Any.strings_IndexByte Tryz.lays137 s c w
open Go.RowKit in
theorem Tryz.Builder_String_any_k (B b : Nat) (l : List UInt8) (w : World) (h : Lib.IsBuilderF 57 5 B b (Lib.byteCells l) w) (hBw : B ≤ w.heap.size) :
  Calls Tryz.prog 19 #[.pointer (some ⟨b, 0, none⟩)] w fun e w' => e = .returned (.string ⟨l.toArray⟩) ∧ (Lib.IsBuilderF 57 5 B b (Lib.byteCells l) w' ∧ Below B w w' ∧ Lib.OthersKept 5 (some b) w w') := Any.Builder_String_any_k Tryz.lays169 Tryz.Builder_Extra_169 B b l w h hBw
def Tryz.lays172_ren : Go.Shelf.Ren := ⟨fun | 172 => 126 | 244 => 141 | 245 => 142 | 247 => 156 | 279 => 157 | 280 => 158 | 281 => 159 | 282 => 160 | 287 => 173 | 316 => 58 | 171 => 77 | 205 => 174 | 321 => 183 | 322 => 184 | 243 => 115 | 246 => 132 | 283 => 148 | 284 => 149 | 285 => 150 | 286 => 151 | 129 => 167 | 317 => 166 | 318 => 168 | 319 => 169 | 320 => 170 | 337 => 180 | 338 => 181 | n => n, fun | 9 => 9 | 3 => 3 | 75 => 59 | 76 => 61 | 4 => 4 | 5 => 5 | 167 => 195 | 37 => 55 | 0 => 0 | 85 => 196 | 2 => 2 | 168 => 198 | 53 => 187 | 175 => 209 | 46 => 91 | 210 => 212 | 127 => 92 | 145 => 222 | 143 => 220 | 21 => 21 | 171 => 186 | 173 => 190 | 212 => 205 | 51 => 179 | 20 => 20 | 213 => 206 | 232 => 224 | 233 => 225 | 80 => 63 | n => n, fun | 15 => 4 | 16 => 5 | 17 => 3 | 18 => 6 | 19 => 7 | n => n⟩
theorem Tryz.lays172 : Go.Proofs.Lays.n172 Tryz.prog Tryz.lays172_ren := {
 mixed := by kernel_rfl
 f129 := Tryz.func167.trans (congrArg some (by kernel_rfl))
 f171 := Tryz.func77.trans (congrArg some (by kernel_rfl))
 f172 := Tryz.func126.trans (congrArg some (by kernel_rfl))
 f205 := Tryz.func174.trans (congrArg some (by kernel_rfl))
 f243 := Tryz.func115.trans (congrArg some (by kernel_rfl))
 f244 := Tryz.func141.trans (congrArg some (by kernel_rfl))
 f245 := Tryz.func142.trans (congrArg some (by kernel_rfl))
 f246 := Tryz.func132.trans (congrArg some (by kernel_rfl))
 f247 := Tryz.func156.trans (congrArg some (by kernel_rfl))
 f279 := Tryz.func157.trans (congrArg some (by kernel_rfl))
 f280 := Tryz.func158.trans (congrArg some (by kernel_rfl))
 f281 := Tryz.func159.trans (congrArg some (by kernel_rfl))
 f282 := Tryz.func160.trans (congrArg some (by kernel_rfl))
 f283 := Tryz.func148.trans (congrArg some (by kernel_rfl))
 f284 := Tryz.func149.trans (congrArg some (by kernel_rfl))
 f285 := Tryz.func150.trans (congrArg some (by kernel_rfl))
 f286 := Tryz.func151.trans (congrArg some (by kernel_rfl))
 f287 := Tryz.func173.trans (congrArg some (by kernel_rfl))
 f316 := Tryz.func58.trans (congrArg some (by kernel_rfl))
 f317 := Tryz.func166.trans (congrArg some (by kernel_rfl))
 f318 := Tryz.func168.trans (congrArg some (by kernel_rfl))
 f319 := Tryz.func169.trans (congrArg some (by kernel_rfl))
 f320 := Tryz.func170.trans (congrArg some (by kernel_rfl))
 f321 := Tryz.func183.trans (congrArg some (by kernel_rfl))
 f322 := Tryz.func184.trans (congrArg some (by kernel_rfl))
 f337 := Tryz.func180.trans (congrArg some (by kernel_rfl))
 f338 := Tryz.func181.trans (congrArg some (by kernel_rfl))
 t0 := Tryz.underlying0
 a0 := Tryz.isAgg0
 z0 := Tryz.sizeOf0
 v0 := Tryz.zeroValue0
 t2 := Tryz.underlying2
 a2 := Tryz.isAgg2
 z2 := Tryz.sizeOf2
 v2 := Tryz.zeroValue2
 t3 := Tryz.underlying3
 a3 := Tryz.isAgg3
 z3 := Tryz.sizeOf3
 v3 := Tryz.zeroValue3
 t4 := Tryz.underlying4
 a4 := Tryz.isAgg4
 z4 := Tryz.sizeOf4
 v4 := Tryz.zeroValue4
 t5 := Tryz.underlying5
 a5 := Tryz.isAgg5
 z5 := Tryz.sizeOf5
 v5 := Tryz.zeroValue5
 t9 := Tryz.underlying9
 a9 := Tryz.isAgg9
 z9 := Tryz.sizeOf9
 v9 := Tryz.zeroValue9
 t20 := Tryz.underlying20
 a20 := Tryz.isAgg20
 z20 := Tryz.sizeOf20
 v20 := Tryz.zeroValue20
 t21 := Tryz.underlying21
 a21 := Tryz.isAgg21
 z21 := Tryz.sizeOf21
 v21 := Tryz.zeroValue21
 t37 := Tryz.underlying55
 a37 := Tryz.isAgg55
 z37 := Tryz.sizeOf55
 v37 := Tryz.zeroValue55
 t46 := Tryz.underlying91
 a46 := Tryz.isAgg91
 z46 := Tryz.sizeOf91
 v46 := Tryz.zeroValue91
 t51 := Tryz.underlying179
 a51 := Tryz.isAgg179
 z51 := Tryz.sizeOf179
 v51 := Tryz.zeroValue179
 t53 := Tryz.underlying187
 a53 := Tryz.isAgg187
 z53 := Tryz.sizeOf187
 v53 := Tryz.zeroValue187
 t75 := Tryz.underlying59
 a75 := Tryz.isAgg59
 z75 := Tryz.sizeOf59
 v75 := Tryz.zeroValue59
 t76 := Tryz.underlying61
 a76 := Tryz.isAgg61
 z76 := Tryz.sizeOf61
 v76 := Tryz.zeroValue61
 t85 := Tryz.underlying196
 a85 := Tryz.isAgg196
 z85 := Tryz.sizeOf196
 v85 := Tryz.zeroValue196
 t127 := Tryz.underlying92
 a127 := Tryz.isAgg92
 z127 := Tryz.sizeOf92
 v127 := Tryz.zeroValue92
 t143 := Tryz.underlying220
 a143 := Tryz.isAgg220
 z143 := Tryz.sizeOf220
 v143 := Tryz.zeroValue220
 t145 := Tryz.underlying222
 a145 := Tryz.isAgg222
 z145 := Tryz.sizeOf222
 v145 := Tryz.zeroValue222
 t167 := Tryz.underlying195
 a167 := Tryz.isAgg195
 z167 := Tryz.sizeOf195
 v167 := Tryz.zeroValue195
 t168 := Tryz.underlying198
 a168 := Tryz.isAgg198
 z168 := Tryz.sizeOf198
 v168 := Tryz.zeroValue198
 t171 := Tryz.underlying186
 a171 := Tryz.isAgg186
 z171 := Tryz.sizeOf186
 v171 := Tryz.zeroValue186
 t173 := Tryz.underlying190
 a173 := Tryz.isAgg190
 z173 := Tryz.sizeOf190
 v173 := Tryz.zeroValue190
 t175 := Tryz.underlying209
 a175 := Tryz.isAgg209
 z175 := Tryz.sizeOf209
 v175 := Tryz.zeroValue209
 t210 := Tryz.underlying212
 a210 := Tryz.isAgg212
 z210 := Tryz.sizeOf212
 v210 := Tryz.zeroValue212
 t212 := Tryz.underlying205
 a212 := Tryz.isAgg205
 z212 := Tryz.sizeOf205
 v212 := Tryz.zeroValue205
 t213 := Tryz.underlying206
 a213 := Tryz.isAgg206
 z213 := Tryz.sizeOf206
 t232 := Tryz.underlying224
 a232 := Tryz.isAgg224
 z232 := Tryz.sizeOf224
 v232 := Tryz.zeroValue224
 t233 := Tryz.underlying225
 a233 := Tryz.isAgg225
 z233 := Tryz.sizeOf225
 v233 := Tryz.zeroValue225
 g15 := by kernel_rfl
 g16 := by kernel_rfl
 g17 := by kernel_rfl
 g18 := by kernel_rfl
 g19 := by kernel_rfl }
open Go.RowKit in
theorem Tryz.strconv_Atoi (s : ByteArray) (n : Int) (hl : s.size ≤ 18) (h : Lib.atoi s.data.toList = some n) (w : World) :
  Calls Tryz.prog 126 #[.string s] w fun e w' => e = .returned (.tuple #[.int .i64 n, .nilIface]) ∧ ∃ t, w' = Lib.bytesWorld w 5 t := Any.strconv_Atoi Tryz.lays172 s n hl h w
def Tryz.lays318_ren : Go.Shelf.Ren := ⟨fun | 318 => 168 | n => n, fun | 3 => 3 | 4 => 4 | n => n, fun | n => n⟩
def Tryz.laysM316_ren : Go.Shelf.Ren := ⟨fun | 316 => 58 | n => n, fun | 9 => 9 | 3 => 3 | 4 => 4 | 37 => 55 | 0 => 0 | 127 => 92 | 5 => 5 | n => n, fun | n => n⟩
theorem Tryz.laysM316 : Go.Proofs.LaysM.n316 Tryz.prog Tryz.laysM316_ren := {
 mixed := by kernel_rfl
 f316 := Tryz.func58.trans (congrArg some (by kernel_rfl))
 t0 := Tryz.underlying0
 a0 := Tryz.isAgg0
 z0 := Tryz.sizeOf0
 v0 := Tryz.zeroValue0
 t3 := Tryz.underlying3
 a3 := Tryz.isAgg3
 z3 := Tryz.sizeOf3
 v3 := Tryz.zeroValue3
 t4 := Tryz.underlying4
 a4 := Tryz.isAgg4
 z4 := Tryz.sizeOf4
 v4 := Tryz.zeroValue4
 t9 := Tryz.underlying9
 a9 := Tryz.isAgg9
 z9 := Tryz.sizeOf9
 v9 := Tryz.zeroValue9
 t37 := Tryz.underlying55
 a37 := Tryz.isAgg55
 z37 := Tryz.sizeOf55
 v37 := Tryz.zeroValue55
 t127 := Tryz.underlying92
 a127 := Tryz.isAgg92
 z127 := Tryz.sizeOf92
 v127 := Tryz.zeroValue92
 t5 := Tryz.underlying5
 a5 := Tryz.isAgg5
 z5 := Tryz.sizeOf5
 v5 := Tryz.zeroValue5
 i0 := by kernel_rfl
 i3 := by kernel_rfl
 i4 := by kernel_rfl
 i5 := by kernel_rfl
 i9 := by kernel_rfl
 i37 := by kernel_rfl
 i127 := by kernel_rfl }
open Go.RowKit in
theorem Tryz.stringslite_Clone (s : ByteArray) (w : World) (hlim : s.size ≤ 281474976710656) :
  Calls Tryz.prog 58 #[.string s] w fun e w' => e = .returned (.string s) ∧ Below w.heap.size w w' := Any.stringslite_Clone Tryz.laysM316 s w hlim
def Tryz.lays219_ren : Go.Shelf.Ren := ⟨fun | 219 => 96 | 217 => 124 | 225 => 102 | 224 => 101 | 267 => 125 | 266 => 139 | 314 => 140 | n => n, fun | 9 => 9 | 3 => 3 | 4 => 4 | 5 => 5 | 46 => 91 | 146 => 180 | 51 => 179 | n => n, fun | 1 => 2 | n => n⟩
def Tryz.lays143_ren : Go.Shelf.Ren := ⟨fun | 143 => 51 | 219 => 96 | 217 => 124 | 225 => 102 | 224 => 101 | 267 => 125 | 266 => 139 | 314 => 140 | n => n, fun | 9 => 9 | 3 => 3 | 4 => 4 | 5 => 5 | 46 => 91 | 146 => 180 | 51 => 179 | n => n, fun | 1 => 2 | n => n⟩
theorem Tryz.lays143 : Go.Proofs.Lays.n143 Tryz.prog Tryz.lays143_ren := {
 mixed := by kernel_rfl
 f143 := Tryz.func51.trans (congrArg some (by kernel_rfl))
 f217 := Tryz.func124.trans (congrArg some (by kernel_rfl))
 f219 := Tryz.func96.trans (congrArg some (by kernel_rfl))
 f224 := Tryz.func101.trans (congrArg some (by kernel_rfl))
 f225 := Tryz.func102.trans (congrArg some (by kernel_rfl))
 f266 := Tryz.func139.trans (congrArg some (by kernel_rfl))
 f267 := Tryz.func125.trans (congrArg some (by kernel_rfl))
 f314 := Tryz.func140.trans (congrArg some (by kernel_rfl))
 t3 := Tryz.underlying3
 a3 := Tryz.isAgg3
 z3 := Tryz.sizeOf3
 v3 := Tryz.zeroValue3
 t4 := Tryz.underlying4
 a4 := Tryz.isAgg4
 z4 := Tryz.sizeOf4
 v4 := Tryz.zeroValue4
 t5 := Tryz.underlying5
 a5 := Tryz.isAgg5
 z5 := Tryz.sizeOf5
 v5 := Tryz.zeroValue5
 t9 := Tryz.underlying9
 a9 := Tryz.isAgg9
 z9 := Tryz.sizeOf9
 v9 := Tryz.zeroValue9
 t46 := Tryz.underlying91
 a46 := Tryz.isAgg91
 z46 := Tryz.sizeOf91
 v46 := Tryz.zeroValue91
 t51 := Tryz.underlying179
 a51 := Tryz.isAgg179
 z51 := Tryz.sizeOf179
 v51 := Tryz.zeroValue179
 t146 := Tryz.underlying180
 a146 := Tryz.isAgg180
 z146 := Tryz.sizeOf180
 v146 := Tryz.zeroValue180
 g1 := by kernel_rfl }
open Go.RowKit Go.Lib in
theorem Tryz.strings_Index_one (s : ByteArray) (c : UInt8) (w : World) :
  Calls Tryz.prog 51 #[.string s, .string ⟨#[c]⟩] w fun e w' => e = .returned (.int .i64 (Lib.indexByte s.data.toList c)) ∧ w' = w := Any.strings_Index_one Tryz.lays143 s c w
def Tryz.lays152_ren : Go.Shelf.Ren := ⟨fun | 152 => 56 | 137 => 99 | 119 => 100 | 224 => 101 | 225 => 102 | 217 => 124 | 266 => 139 | n => n, fun | 9 => 9 | 21 => 21 | 3 => 3 | 4 => 4 | 5 => 5 | 0 => 0 | 46 => 91 | n => n, fun | n => n⟩
theorem Tryz.lays152 : Go.Proofs.Lays.n152 Tryz.prog Tryz.lays152_ren := {
 mixed := by kernel_rfl
 f119 := Tryz.func100.trans (congrArg some (by kernel_rfl))
 f137 := Tryz.func99.trans (congrArg some (by kernel_rfl))
 f152 := Tryz.func56.trans (congrArg some (by kernel_rfl))
 f217 := Tryz.func124.trans (congrArg some (by kernel_rfl))
 f224 := Tryz.func101.trans (congrArg some (by kernel_rfl))
 f225 := Tryz.func102.trans (congrArg some (by kernel_rfl))
 f266 := Tryz.func139.trans (congrArg some (by kernel_rfl))
 t0 := Tryz.underlying0
 a0 := Tryz.isAgg0
 z0 := Tryz.sizeOf0
 v0 := Tryz.zeroValue0
 t3 := Tryz.underlying3
 a3 := Tryz.isAgg3
 z3 := Tryz.sizeOf3
 v3 := Tryz.zeroValue3
 t4 := Tryz.underlying4
 a4 := Tryz.isAgg4
 z4 := Tryz.sizeOf4
 v4 := Tryz.zeroValue4
 t5 := Tryz.underlying5
 a5 := Tryz.isAgg5
 z5 := Tryz.sizeOf5
 v5 := Tryz.zeroValue5
 t9 := Tryz.underlying9
 a9 := Tryz.isAgg9
 z9 := Tryz.sizeOf9
 v9 := Tryz.zeroValue9
 t21 := Tryz.underlying21
 a21 := Tryz.isAgg21
 z21 := Tryz.sizeOf21
 v21 := Tryz.zeroValue21
 t46 := Tryz.underlying91
 a46 := Tryz.isAgg91
 z46 := Tryz.sizeOf91
 v46 := Tryz.zeroValue91 }
open Go.RowKit Go.Lib in
theorem Tryz.strings_IndexRune_ascii (s : ByteArray) (r : Int) (w : World) (h0 : 0 ≤ r) (h1 : r < 128) :
  Calls Tryz.prog 56 #[.string s, .int .i32 r] w fun e w' => e = .returned (.int .i64 (Lib.indexByte s.data.toList r.toNat.toUInt8)) ∧ w' = w := Any.strings_IndexRune_ascii Tryz.lays152 s r w h0 h1
def Tryz.lays226_ren : Go.Shelf.Ren := ⟨fun | 226 => 57 | n => n, fun | 3 => 3 | 4 => 4 | n => n, fun | n => n⟩
theorem Tryz.lays226 : Go.Proofs.Lays.n226 Tryz.prog Tryz.lays226_ren := {
 mixed := by kernel_rfl
 f226 := Tryz.func57.trans (congrArg some (by kernel_rfl))
 t3 := Tryz.underlying3
 a3 := Tryz.isAgg3
 z3 := Tryz.sizeOf3
 v3 := Tryz.zeroValue3
 t4 := Tryz.underlying4
 a4 := Tryz.isAgg4
 z4 := Tryz.sizeOf4
 v4 := Tryz.zeroValue4 }
open Go.RowKit Go.Lib in
theorem Tryz.strings_shouldUseASCIISet (n : Int) (w : World) :
  Calls Tryz.prog 57 #[.int .i64 n] w fun e w' => e = .returned (.bool (decide (8 < n))) ∧ w' = w := Any.strings_shouldUseASCIISet Tryz.lays226 n w
def Tryz.lays153_ren : Go.Shelf.Ren := ⟨fun | 153 => 32 | 152 => 56 | 226 => 57 | 227 => 25 | 228 => 52 | 137 => 99 | 119 => 100 | 224 => 101 | 225 => 102 | 217 => 124 | 266 => 139 | n => n, fun | 9 => 9 | 3 => 3 | 4 => 4 | 5 => 5 | 21 => 21 | 117 => 71 | 116 => 70 | 0 => 0 | 46 => 91 | 124 => 74 | n => n, fun | n => n⟩
theorem Tryz.lays153 : Go.Proofs.Lays.n153 Tryz.prog Tryz.lays153_ren := {
 mixed := by kernel_rfl
 f119 := Tryz.func100.trans (congrArg some (by kernel_rfl))
 f137 := Tryz.func99.trans (congrArg some (by kernel_rfl))
 f152 := Tryz.func56.trans (congrArg some (by kernel_rfl))
 f153 := Tryz.func32.trans (congrArg some (by kernel_rfl))
 f217 := Tryz.func124.trans (congrArg some (by kernel_rfl))
 f224 := Tryz.func101.trans (congrArg some (by kernel_rfl))
 f225 := Tryz.func102.trans (congrArg some (by kernel_rfl))
 f226 := Tryz.func57.trans (congrArg some (by kernel_rfl))
 f227 := Tryz.func25.trans (congrArg some (by kernel_rfl))
 f228 := Tryz.func52.trans (congrArg some (by kernel_rfl))
 f266 := Tryz.func139.trans (congrArg some (by kernel_rfl))
 t0 := Tryz.underlying0
 a0 := Tryz.isAgg0
 z0 := Tryz.sizeOf0
 v0 := Tryz.zeroValue0
 t3 := Tryz.underlying3
 a3 := Tryz.isAgg3
 z3 := Tryz.sizeOf3
 v3 := Tryz.zeroValue3
 t4 := Tryz.underlying4
 a4 := Tryz.isAgg4
 z4 := Tryz.sizeOf4
 v4 := Tryz.zeroValue4
 t5 := Tryz.underlying5
 a5 := Tryz.isAgg5
 z5 := Tryz.sizeOf5
 v5 := Tryz.zeroValue5
 t9 := Tryz.underlying9
 a9 := Tryz.isAgg9
 z9 := Tryz.sizeOf9
 v9 := Tryz.zeroValue9
 t21 := Tryz.underlying21
 a21 := Tryz.isAgg21
 z21 := Tryz.sizeOf21
 v21 := Tryz.zeroValue21
 t46 := Tryz.underlying91
 a46 := Tryz.isAgg91
 z46 := Tryz.sizeOf91
 v46 := Tryz.zeroValue91
 t116 := Tryz.underlying70
 a116 := Tryz.isAgg70
 z116 := Tryz.sizeOf70
 t117 := Tryz.underlying71
 a117 := Tryz.isAgg71
 z117 := Tryz.sizeOf71
 v117 := Tryz.zeroValue71
 t124 := Tryz.underlying74
 a124 := Tryz.isAgg74
 z124 := Tryz.sizeOf74
 v124 := Tryz.zeroValue74 }
open Go.RowKit Go.Lib in
theorem Tryz.strings_IndexAny_long (hv116 : ∀ w, (zeroValue 70).run Tryz.prog w = .ok (.agg (Array.replicate 256 (.bool false))) w) (s chars : ByteArray) (w : World) (h2 : 2 ≤ chars.size) (h8 : 8 < s.size) (hs : s.size < 4294967281) (hcs : chars.size < 4294967281) (hascii : ∀ (j : Nat) b, chars.data.toList[j]? = some b → b.toNat < 128) :
  Calls Tryz.prog 32 #[.string s, .string chars] w fun e w' => e = .returned (.int .i64 (Lib.indexAny s.data.toList chars.data.toList)) ∧ w' = ((w.alloc (.cells (Lib.setCells chars.data.toList) 70)).alloc (.cells (Lib.setCells chars.data.toList) 70)) := Any.strings_IndexAny_long Tryz.lays153 hv116 (by kernel_rfl) s chars w h2 h8 hs hcs hascii
def Tryz.lays260_ren : Go.Shelf.Ren := ⟨fun | 260 => 95 | n => n, fun | 9 => 9 | 21 => 21 | 3 => 3 | 4 => 4 | 5 => 5 | 119 => 165 | 0 => 0 | 46 => 91 | 139 => 168 | 138 => 167 | n => n, fun | 3 => 0 | 4 => 1 | n => n⟩
theorem Tryz.lays260 : Go.Proofs.Lays.n260 Tryz.prog Tryz.lays260_ren := {
 mixed := by kernel_rfl
 f260 := Tryz.func95.trans (congrArg some (by kernel_rfl))
 t0 := Tryz.underlying0
 a0 := Tryz.isAgg0
 z0 := Tryz.sizeOf0
 v0 := Tryz.zeroValue0
 t3 := Tryz.underlying3
 a3 := Tryz.isAgg3
 z3 := Tryz.sizeOf3
 v3 := Tryz.zeroValue3
 t4 := Tryz.underlying4
 a4 := Tryz.isAgg4
 z4 := Tryz.sizeOf4
 v4 := Tryz.zeroValue4
 t5 := Tryz.underlying5
 a5 := Tryz.isAgg5
 z5 := Tryz.sizeOf5
 v5 := Tryz.zeroValue5
 t9 := Tryz.underlying9
 a9 := Tryz.isAgg9
 z9 := Tryz.sizeOf9
 v9 := Tryz.zeroValue9
 t21 := Tryz.underlying21
 a21 := Tryz.isAgg21
 z21 := Tryz.sizeOf21
 v21 := Tryz.zeroValue21
 t46 := Tryz.underlying91
 a46 := Tryz.isAgg91
 z46 := Tryz.sizeOf91
 v46 := Tryz.zeroValue91
 t119 := Tryz.underlying165
 a119 := Tryz.isAgg165
 z119 := Tryz.sizeOf165
 t138 := Tryz.underlying167
 a138 := Tryz.isAgg167
 z138 := Tryz.sizeOf167
 v138 := Tryz.zeroValue167
 t139 := Tryz.underlying168
 a139 := Tryz.isAgg168
 z139 := Tryz.sizeOf168
 v139 := Tryz.zeroValue168
 g3 := by kernel_rfl
 g4 := by kernel_rfl }
open Go.RowKit in
theorem Tryz.strings_Trim_set (s cs : ByteArray) (w : World) (hs : s.size ≤ 9223372036854775807) (hc : cs.size < 4294967281) (ha : ∀ (j : Nat) b, cs.data.toList[j]? = some b → b.toNat < 128) :
  Calls Tryz.prog 12 #[.string s, .string cs] w fun e w' => e = .returned (.string ⟨(Lib.trimS s.data.toList cs.data.toList).toArray⟩) ∧ Below w.heap.size w w' := Any.strings_Trim_laid Tryz.lays160 (by kernel_rfl) s cs w hs hc ha
end Go.Proofs
