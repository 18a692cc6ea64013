/-
 DERIVED:THE SHELF's CONTRACTS AT THIS DUMP,IN PLAIN WORDS (tools/lay-plain.mjs out of 'TryzShelf.lean',which tools/lay-shelf.mjs wrote):THE SAME DECLARATIONS UNDER THE SAME NAMES:'import','namespace','open','def','theorem' AND NOTHING ELSE:no command of the shelf's:FOR A HAND-IN. Each laying:the table of numbers ('.._ren') and one theorem,a field a fact of the dump's own or the kernel's comparison;each contract:ONE APPLICATION.
-/
import Derived.Shelf.Strings.SlTrimAscii
import Derived.Shelf.Unicode.ValidAny
import Derived.Shelf.Strings.Builder1
import Derived.Shelf.Strings.Builder2
import Derived.Shelf.Strings.OnBuilder
import Derived.Shelf.Strings.Trim
import Derived.Shelf.Small.Utf8
import Derived.Shelf.Small.Bits
import Derived.Shelf.Small.Strs
import Derived.Shelf.Small.Wraps
import Derived.Shelf.Strings.BuilderF
import Derived.Shelf.Strings.BuilderK
import Derived.Shelf.Utf8.RuneCount
import Derived.Shelf.Strconv.Atoi
import Derived.Shelf.Strconv.Itoa0
import Derived.Shelf.Strconv.Itoa1
import Derived.Shelf.LaysM
import Derived.Shelf.Strconv.Itoa2
import Derived.Shelf.Strconv.Itoa3
import Derived.Shelf.Strconv.Clone
import Derived.Shelf.Strings.Search1
import Derived.Shelf.Strings.Search2
import Derived.Shelf.Strings.Search3
import Derived.Shelf.Strings.Cut
import Derived.Shelf.Strings.Count
import Derived.Shelf.Strings.Shaped
import Derived.Shelf.Strings.Prefix
import Derived.Shelf.Strings.Split
import Derived.Shelf.Strings.Replace
import Derived.Shelf.Strings.SplitShaped
import Derived.Shelf.Unicode.Decode
import Derived.Shelf.Strings.Runes
import Derived.Shelf.Strings.RuneCount
import Derived.Shelf.Strings.IndexAny
import Derived.Shelf.Strings.AsciiSet
import Derived.Shelf.Strings.IndexAnyAll
import Derived.Shelf.Strings.Explode
import Derived.Shelf.Unicode.DecodeSlow
import Derived.Shelf.Unicode.DecodeAny
import Derived.Test.YtakfpngfpknedaaGreatDoorProg
set_option linter.all false
set_option maxHeartbeats 8000000
set_option maxRecDepth 100000
namespace Go.Proofs
open Go.Shelf
def Tryz.lays156_ren:Go.Shelf.Ren:=⟨fun|156=>62|165=>90|166=>91|169=>92|240=>156|241=>157|276=>221|277=>222|n=>n,fun|31=>22|9=>9|3=>3|4=>4|0=>0|20=>20|72=>139|76=>108|70=>137|37=>103|75=>107|127=>113|164=>248|5=>5|80=>40|n=>n,fun|n=>n⟩
theorem Tryz.lays156:Go.Proofs.Lays.n156 Tryz.prog Tryz.lays156_ren:={
 mixed:=by kernel_rfl
 f156:=Tryz.func62.trans (congrArg some (by kernel_rfl))
 f165:=Tryz.func90.trans (congrArg some (by kernel_rfl))
 f166:=Tryz.func91.trans (congrArg some (by kernel_rfl))
 f169:=Tryz.func92.trans (congrArg some (by kernel_rfl))
 f240:=Tryz.func156.trans (congrArg some (by kernel_rfl))
 f241:=Tryz.func157.trans (congrArg some (by kernel_rfl))
 f276:=Tryz.func221.trans (congrArg some (by kernel_rfl))
 f277:=Tryz.func222.trans (congrArg some (by kernel_rfl))
 t0:=Tryz.underlying0
 a0:=Tryz.isAgg0
 z0:=Tryz.sizeOf0
 v0:=Tryz.zeroValue0
 t3:=Tryz.underlying3
 a3:=Tryz.isAgg3
 z3:=Tryz.sizeOf3
 v3:=Tryz.zeroValue3
 t4:=Tryz.underlying4
 a4:=Tryz.isAgg4
 z4:=Tryz.sizeOf4
 v4:=Tryz.zeroValue4
 t9:=Tryz.underlying9
 a9:=Tryz.isAgg9
 z9:=Tryz.sizeOf9
 v9:=Tryz.zeroValue9
 t20:=Tryz.underlying20
 a20:=Tryz.isAgg20
 z20:=Tryz.sizeOf20
 v20:=Tryz.zeroValue20
 t31:=Tryz.underlying22
 a31:=Tryz.isAgg22
 z31:=Tryz.sizeOf22
 v31:=Tryz.zeroValue22
 t37:=Tryz.underlying103
 a37:=Tryz.isAgg103
 z37:=Tryz.sizeOf103
 v37:=Tryz.zeroValue103
 t70:=Tryz.underlying137
 a70:=Tryz.isAgg137
 z70:=Tryz.sizeOf137
 v70:=Tryz.zeroValue137
 t72:=Tryz.underlying139
 a72:=Tryz.isAgg139
 z72:=Tryz.sizeOf139
 v72:=Tryz.zeroValue139
 t75:=Tryz.underlying107
 a75:=Tryz.isAgg107
 z75:=Tryz.sizeOf107
 v75:=Tryz.zeroValue107
 t76:=Tryz.underlying108
 a76:=Tryz.isAgg108
 z76:=Tryz.sizeOf108
 v76:=Tryz.zeroValue108
 t127:=Tryz.underlying113
 a127:=Tryz.isAgg113
 z127:=Tryz.sizeOf113
 v127:=Tryz.zeroValue113
 t164:=Tryz.underlying248
 a164:=Tryz.isAgg248
 z164:=Tryz.sizeOf248
 v164:=Tryz.zeroValue248}
theorem Tryz.Builder_Extra_156:Builder.Extra Tryz.prog Tryz.lays156_ren:={
 sizeBuilder:=by kernel_rfl
 liesBuilder:=by kernel_rfl
 t5:=Tryz.underlying5
 a5:=Tryz.isAgg5
 z5:=Tryz.sizeOf5
 v5:=Tryz.zeroValue5
 infoByte:=by kernel_rfl
 cellsByte:=by kernel_rfl
 sizeByte:=by kernel_rfl
 neB5:=by decide}
open Go.RowKit in
theorem Tryz.strings_Join_none (a:Option Addr) (c:Nat) (sep:ByteArray) (w:World):
  Calls Tryz.prog 62 #[.slice a 0 c,.string sep] w fun e w'=>e= .returned (.string ⟨#[]⟩)∧w'=w:=Any.strings_Join_none Tryz.lays156 Tryz.Builder_Extra_156 a c sep w
open Go.RowKit in
theorem Tryz.strings_Join (bk o c:Nat) (xs:List ByteArray) (sep:ByteArray) (w:World) (hcells:∀ (j:Nat) x,xs[j]?=some x→w.cell? ⟨bk,o+j,none⟩=some (.string x)) (hbk:bk<w.heap.size) (hN:xs.length≤140737488355328) (hcap:xs.length≤c) (hlen:(Lib.join (xs.map (·.data.toList)) sep.data.toList).length≤140737488355328):
  Calls Tryz.prog 62 #[.slice (some ⟨bk,o,none⟩) xs.length c,.string sep] w fun e w'=>e= .returned (.string ⟨(Lib.join (xs.map (·.data.toList)) sep.data.toList).toArray⟩)∧Below w.heap.size w w':=Any.strings_Join Tryz.lays156 Tryz.Builder_Extra_156 bk o c xs sep w hcells hbk hN hcap hlen
def Tryz.lays160_ren:Go.Shelf.Ren:=⟨fun|160=>67|232=>97|231=>96|227=>98|234=>100|233=>99|236=>102|235=>101|228=>161|271=>164|151=>163|197=>162|120=>225|152=>224|260=>223|137=>175|119=>261|224=>109|225=>108|217=>107|266=>173|n=>n,fun|9=>9|4=>4|3=>3|5=>5|117=>145|116=>144|0=>0|124=>148|21=>21|105=>202|46=>153|119=>278|139=>281|138=>280|n=>n,fun|3=>4|4=>5|n=>n⟩
theorem Tryz.lays160:Go.Proofs.Lays.n160 Tryz.prog Tryz.lays160_ren:={
 mixed:=by kernel_rfl
 f119:=Tryz.func261.trans (congrArg some (by kernel_rfl))
 f120:=Tryz.func225.trans (congrArg some (by kernel_rfl))
 f137:=Tryz.func175.trans (congrArg some (by kernel_rfl))
 f151:=Tryz.func163.trans (congrArg some (by kernel_rfl))
 f152:=Tryz.func224.trans (congrArg some (by kernel_rfl))
 f160:=Tryz.func67.trans (congrArg some (by kernel_rfl))
 f197:=Tryz.func162.trans (congrArg some (by kernel_rfl))
 f217:=Tryz.func107.trans (congrArg some (by kernel_rfl))
 f224:=Tryz.func109.trans (congrArg some (by kernel_rfl))
 f225:=Tryz.func108.trans (congrArg some (by kernel_rfl))
 f227:=Tryz.func98.trans (congrArg some (by kernel_rfl))
 f228:=Tryz.func161.trans (congrArg some (by kernel_rfl))
 f231:=Tryz.func96.trans (congrArg some (by kernel_rfl))
 f232:=Tryz.func97.trans (congrArg some (by kernel_rfl))
 f233:=Tryz.func99.trans (congrArg some (by kernel_rfl))
 f234:=Tryz.func100.trans (congrArg some (by kernel_rfl))
 f235:=Tryz.func101.trans (congrArg some (by kernel_rfl))
 f236:=Tryz.func102.trans (congrArg some (by kernel_rfl))
 f260:=Tryz.func223.trans (congrArg some (by kernel_rfl))
 f266:=Tryz.func173.trans (congrArg some (by kernel_rfl))
 f271:=Tryz.func164.trans (congrArg some (by kernel_rfl))
 t0:=Tryz.underlying0
 a0:=Tryz.isAgg0
 z0:=Tryz.sizeOf0
 v0:=Tryz.zeroValue0
 t3:=Tryz.underlying3
 a3:=Tryz.isAgg3
 z3:=Tryz.sizeOf3
 v3:=Tryz.zeroValue3
 t4:=Tryz.underlying4
 a4:=Tryz.isAgg4
 z4:=Tryz.sizeOf4
 v4:=Tryz.zeroValue4
 t5:=Tryz.underlying5
 a5:=Tryz.isAgg5
 z5:=Tryz.sizeOf5
 v5:=Tryz.zeroValue5
 t9:=Tryz.underlying9
 a9:=Tryz.isAgg9
 z9:=Tryz.sizeOf9
 v9:=Tryz.zeroValue9
 t21:=Tryz.underlying21
 a21:=Tryz.isAgg21
 z21:=Tryz.sizeOf21
 v21:=Tryz.zeroValue21
 t46:=Tryz.underlying153
 a46:=Tryz.isAgg153
 z46:=Tryz.sizeOf153
 v46:=Tryz.zeroValue153
 t105:=Tryz.underlying202
 a105:=Tryz.isAgg202
 z105:=Tryz.sizeOf202
 v105:=Tryz.zeroValue202
 t116:=Tryz.underlying144
 a116:=Tryz.isAgg144
 z116:=Tryz.sizeOf144
 t117:=Tryz.underlying145
 a117:=Tryz.isAgg145
 z117:=Tryz.sizeOf145
 v117:=Tryz.zeroValue145
 t119:=Tryz.underlying278
 a119:=Tryz.isAgg278
 z119:=Tryz.sizeOf278
 t124:=Tryz.underlying148
 a124:=Tryz.isAgg148
 z124:=Tryz.sizeOf148
 v124:=Tryz.zeroValue148
 t138:=Tryz.underlying280
 a138:=Tryz.isAgg280
 z138:=Tryz.sizeOf280
 v138:=Tryz.zeroValue280
 t139:=Tryz.underlying281
 a139:=Tryz.isAgg281
 z139:=Tryz.sizeOf281
 v139:=Tryz.zeroValue281
 g3:=by kernel_rfl
 g4:=by kernel_rfl}
open Go.RowKit in
theorem Tryz.strings_Trim_one (s:ByteArray) (c:UInt8) (hc:c.toNat<128) (w:World) (hs:s.size≤9223372036854775807):
  Calls Tryz.prog 67 #[.string s,.string ⟨#[c]⟩] w fun e w'=>e= .returned (.string ⟨(Lib.trimB s.data.toList c).toArray⟩)∧(w'=w∨w'=w.drew):=Any.strings_Trim_one Tryz.lays160 s c hc w hs
def Tryz.lays119_ren:Go.Shelf.Ren:=⟨fun|119=>261|n=>n,fun|21=>21|4=>4|n=>n,fun|n=>n⟩
theorem Tryz.lays119:Go.Proofs.Lays.n119 Tryz.prog Tryz.lays119_ren:={
 mixed:=by kernel_rfl
 f119:=Tryz.func261.trans (congrArg some (by kernel_rfl))
 t4:=Tryz.underlying4
 a4:=Tryz.isAgg4
 z4:=Tryz.sizeOf4
 v4:=Tryz.zeroValue4
 t21:=Tryz.underlying21
 a21:=Tryz.isAgg21
 z21:=Tryz.sizeOf21
 v21:=Tryz.zeroValue21}
theorem Tryz.utf8_ValidRune (r:Int) (w:World):
  Calls Tryz.prog 261 #[.int .i32 r] w fun e w'=>e= .returned (.bool (Lib.validRune r))∧w'=w:=Any.utf8_ValidRune Tryz.lays119 r w
def Tryz.lays125_ren:Go.Shelf.Ren:=⟨fun|125=>254|128=>286|129=>217|n=>n,fun|46=>153|3=>3|51=>212|53=>197|4=>4|5=>5|9=>9|n=>n,fun|n=>n⟩
theorem Tryz.lays125:Go.Proofs.Lays.n125 Tryz.prog Tryz.lays125_ren:={
 mixed:=by kernel_rfl
 f125:=Tryz.func254.trans (congrArg some (by kernel_rfl))
 f128:=Tryz.func286.trans (congrArg some (by kernel_rfl))
 f129:=Tryz.func217.trans (congrArg some (by kernel_rfl))
 t3:=Tryz.underlying3
 a3:=Tryz.isAgg3
 z3:=Tryz.sizeOf3
 v3:=Tryz.zeroValue3
 t4:=Tryz.underlying4
 a4:=Tryz.isAgg4
 z4:=Tryz.sizeOf4
 v4:=Tryz.zeroValue4
 t5:=Tryz.underlying5
 a5:=Tryz.isAgg5
 z5:=Tryz.sizeOf5
 v5:=Tryz.zeroValue5
 t9:=Tryz.underlying9
 a9:=Tryz.isAgg9
 z9:=Tryz.sizeOf9
 v9:=Tryz.zeroValue9
 t46:=Tryz.underlying153
 a46:=Tryz.isAgg153
 z46:=Tryz.sizeOf153
 v46:=Tryz.zeroValue153
 t51:=Tryz.underlying212
 a51:=Tryz.isAgg212
 z51:=Tryz.sizeOf212
 v51:=Tryz.zeroValue212
 t53:=Tryz.underlying197
 a53:=Tryz.isAgg197
 z53:=Tryz.sizeOf197
 v53:=Tryz.zeroValue197}
theorem Tryz.bits_Len (x:Int) (w:World) (h0:0≤x) (h1:x≤18446744073709551615):
  Calls Tryz.prog 254 #[.int .u64 x] w fun e w'=>e= .returned (.int .i64 (Lib.bitLen x.toNat))∧w'=w:=Any.bits_Len Tryz.lays125 x w h0 h1
def Tryz.lays213_ren:Go.Shelf.Ren:=⟨fun|213=>287|265=>301|n=>n,fun|9=>9|3=>3|n=>n,fun|n=>n⟩
def Tryz.lays106_ren:Go.Shelf.Ren:=⟨fun|106=>255|213=>287|265=>301|n=>n,fun|9=>9|3=>3|n=>n,fun|n=>n⟩
theorem Tryz.lays106:Go.Proofs.Lays.n106 Tryz.prog Tryz.lays106_ren:={
 mixed:=by kernel_rfl
 f106:=Tryz.func255.trans (congrArg some (by kernel_rfl))
 f213:=Tryz.func287.trans (congrArg some (by kernel_rfl))
 f265:=Tryz.func301.trans (congrArg some (by kernel_rfl))
 t3:=Tryz.underlying3
 a3:=Tryz.isAgg3
 z3:=Tryz.sizeOf3
 v3:=Tryz.zeroValue3
 t9:=Tryz.underlying9
 a9:=Tryz.isAgg9
 z9:=Tryz.sizeOf9
 v9:=Tryz.zeroValue9}
open Go.RowKit in
theorem Tryz.strings_Compare (a b:ByteArray) (w:World):
  Calls Tryz.prog 255 #[.string a,.string b] w fun e w'=>e= .returned (.int .i64 (Lib.compareBytes a.data.toList b.data.toList))∧w'=w:=Any.strings_Compare Tryz.lays106 a b w
def Tryz.lays137_ren:Go.Shelf.Ren:=⟨fun|137=>175|217=>107|266=>173|n=>n,fun|9=>9|5=>5|3=>3|n=>n,fun|n=>n⟩
theorem Tryz.lays137:Go.Proofs.Lays.n137 Tryz.prog Tryz.lays137_ren:={
 mixed:=by kernel_rfl
 f137:=Tryz.func175.trans (congrArg some (by kernel_rfl))
 f217:=Tryz.func107.trans (congrArg some (by kernel_rfl))
 f266:=Tryz.func173.trans (congrArg some (by kernel_rfl))
 t3:=Tryz.underlying3
 a3:=Tryz.isAgg3
 z3:=Tryz.sizeOf3
 v3:=Tryz.zeroValue3
 t5:=Tryz.underlying5
 a5:=Tryz.isAgg5
 z5:=Tryz.sizeOf5
 v5:=Tryz.zeroValue5
 t9:=Tryz.underlying9
 a9:=Tryz.isAgg9
 z9:=Tryz.sizeOf9
 v9:=Tryz.zeroValue9}
open Go.RowKit in
theorem Tryz.strings_IndexByte (s:ByteArray) (c:Int) (w:World):
  Calls Tryz.prog 175 #[.string s,.int .u8 c] w fun e w'=>e= .returned (.int .i64 (Lib.indexByte s.data.toList c.toNat.toUInt8))∧w'=w:=Any.strings_IndexByte Tryz.lays137 s c w
def Tryz.lays103_ren:Go.Shelf.Ren:=⟨fun|103=>233|210=>264|206=>198|n=>n,fun|9=>9|4=>4|24=>162|3=>3|n=>n,fun|n=>n⟩
theorem Tryz.lays103:Go.Proofs.Lays.n103 Tryz.prog Tryz.lays103_ren:={
 mixed:=by kernel_rfl
 f103:=Tryz.func233.trans (congrArg some (by kernel_rfl))
 f206:=Tryz.func198.trans (congrArg some (by kernel_rfl))
 f210:=Tryz.func264.trans (congrArg some (by kernel_rfl))
 t3:=Tryz.underlying3
 a3:=Tryz.isAgg3
 z3:=Tryz.sizeOf3
 v3:=Tryz.zeroValue3
 t4:=Tryz.underlying4
 a4:=Tryz.isAgg4
 z4:=Tryz.sizeOf4
 v4:=Tryz.zeroValue4
 t9:=Tryz.underlying9
 a9:=Tryz.isAgg9
 z9:=Tryz.sizeOf9
 v9:=Tryz.zeroValue9
 t24:=Tryz.underlying162
 a24:=Tryz.isAgg162
 z24:=Tryz.sizeOf162
 v24:=Tryz.zeroValue162}
open Go.RowKit in
theorem Tryz.strings_CutPrefix (s p:ByteArray) (w:World):
  Calls Tryz.prog 233 #[.string s,.string p] w fun e w'=>e= .returned (.tuple #[.string ⟨(Lib.trimPrefix s.data.toList p.data.toList).toArray⟩,.bool (Lib.hasPrefix s.data.toList p.data.toList)])∧w'=w:=Any.strings_CutPrefix Tryz.lays103 s p w
def Tryz.lays172_ren:Go.Shelf.Ren:=⟨fun|172=>68|244=>103|245=>104|247=>165|279=>166|280=>167|281=>168|282=>169|287=>226|316=>54|171=>33|205=>227|321=>262|322=>263|243=>61|246=>89|283=>152|284=>153|285=>154|286=>155|129=>217|317=>216|318=>218|319=>219|320=>220|337=>259|338=>260|n=>n,fun|9=>9|3=>3|75=>107|76=>108|4=>4|5=>5|167=>205|37=>103|0=>0|85=>206|2=>2|168=>208|53=>197|175=>252|46=>153|210=>255|127=>113|145=>286|143=>284|21=>21|171=>196|173=>200|212=>245|51=>212|20=>20|213=>246|232=>300|233=>301|80=>40|n=>n,fun|15=>2|16=>3|17=>1|18=>6|19=>7|n=>n⟩
theorem Tryz.lays172:Go.Proofs.Lays.n172 Tryz.prog Tryz.lays172_ren:={
 mixed:=by kernel_rfl
 f129:=Tryz.func217.trans (congrArg some (by kernel_rfl))
 f171:=Tryz.func33.trans (congrArg some (by kernel_rfl))
 f172:=Tryz.func68.trans (congrArg some (by kernel_rfl))
 f205:=Tryz.func227.trans (congrArg some (by kernel_rfl))
 f243:=Tryz.func61.trans (congrArg some (by kernel_rfl))
 f244:=Tryz.func103.trans (congrArg some (by kernel_rfl))
 f245:=Tryz.func104.trans (congrArg some (by kernel_rfl))
 f246:=Tryz.func89.trans (congrArg some (by kernel_rfl))
 f247:=Tryz.func165.trans (congrArg some (by kernel_rfl))
 f279:=Tryz.func166.trans (congrArg some (by kernel_rfl))
 f280:=Tryz.func167.trans (congrArg some (by kernel_rfl))
 f281:=Tryz.func168.trans (congrArg some (by kernel_rfl))
 f282:=Tryz.func169.trans (congrArg some (by kernel_rfl))
 f283:=Tryz.func152.trans (congrArg some (by kernel_rfl))
 f284:=Tryz.func153.trans (congrArg some (by kernel_rfl))
 f285:=Tryz.func154.trans (congrArg some (by kernel_rfl))
 f286:=Tryz.func155.trans (congrArg some (by kernel_rfl))
 f287:=Tryz.func226.trans (congrArg some (by kernel_rfl))
 f316:=Tryz.func54.trans (congrArg some (by kernel_rfl))
 f317:=Tryz.func216.trans (congrArg some (by kernel_rfl))
 f318:=Tryz.func218.trans (congrArg some (by kernel_rfl))
 f319:=Tryz.func219.trans (congrArg some (by kernel_rfl))
 f320:=Tryz.func220.trans (congrArg some (by kernel_rfl))
 f321:=Tryz.func262.trans (congrArg some (by kernel_rfl))
 f322:=Tryz.func263.trans (congrArg some (by kernel_rfl))
 f337:=Tryz.func259.trans (congrArg some (by kernel_rfl))
 f338:=Tryz.func260.trans (congrArg some (by kernel_rfl))
 t0:=Tryz.underlying0
 a0:=Tryz.isAgg0
 z0:=Tryz.sizeOf0
 v0:=Tryz.zeroValue0
 t2:=Tryz.underlying2
 a2:=Tryz.isAgg2
 z2:=Tryz.sizeOf2
 v2:=Tryz.zeroValue2
 t3:=Tryz.underlying3
 a3:=Tryz.isAgg3
 z3:=Tryz.sizeOf3
 v3:=Tryz.zeroValue3
 t4:=Tryz.underlying4
 a4:=Tryz.isAgg4
 z4:=Tryz.sizeOf4
 v4:=Tryz.zeroValue4
 t5:=Tryz.underlying5
 a5:=Tryz.isAgg5
 z5:=Tryz.sizeOf5
 v5:=Tryz.zeroValue5
 t9:=Tryz.underlying9
 a9:=Tryz.isAgg9
 z9:=Tryz.sizeOf9
 v9:=Tryz.zeroValue9
 t20:=Tryz.underlying20
 a20:=Tryz.isAgg20
 z20:=Tryz.sizeOf20
 v20:=Tryz.zeroValue20
 t21:=Tryz.underlying21
 a21:=Tryz.isAgg21
 z21:=Tryz.sizeOf21
 v21:=Tryz.zeroValue21
 t37:=Tryz.underlying103
 a37:=Tryz.isAgg103
 z37:=Tryz.sizeOf103
 v37:=Tryz.zeroValue103
 t46:=Tryz.underlying153
 a46:=Tryz.isAgg153
 z46:=Tryz.sizeOf153
 v46:=Tryz.zeroValue153
 t51:=Tryz.underlying212
 a51:=Tryz.isAgg212
 z51:=Tryz.sizeOf212
 v51:=Tryz.zeroValue212
 t53:=Tryz.underlying197
 a53:=Tryz.isAgg197
 z53:=Tryz.sizeOf197
 v53:=Tryz.zeroValue197
 t75:=Tryz.underlying107
 a75:=Tryz.isAgg107
 z75:=Tryz.sizeOf107
 v75:=Tryz.zeroValue107
 t76:=Tryz.underlying108
 a76:=Tryz.isAgg108
 z76:=Tryz.sizeOf108
 v76:=Tryz.zeroValue108
 t85:=Tryz.underlying206
 a85:=Tryz.isAgg206
 z85:=Tryz.sizeOf206
 v85:=Tryz.zeroValue206
 t127:=Tryz.underlying113
 a127:=Tryz.isAgg113
 z127:=Tryz.sizeOf113
 v127:=Tryz.zeroValue113
 t143:=Tryz.underlying284
 a143:=Tryz.isAgg284
 z143:=Tryz.sizeOf284
 v143:=Tryz.zeroValue284
 t145:=Tryz.underlying286
 a145:=Tryz.isAgg286
 z145:=Tryz.sizeOf286
 v145:=Tryz.zeroValue286
 t167:=Tryz.underlying205
 a167:=Tryz.isAgg205
 z167:=Tryz.sizeOf205
 v167:=Tryz.zeroValue205
 t168:=Tryz.underlying208
 a168:=Tryz.isAgg208
 z168:=Tryz.sizeOf208
 v168:=Tryz.zeroValue208
 t171:=Tryz.underlying196
 a171:=Tryz.isAgg196
 z171:=Tryz.sizeOf196
 v171:=Tryz.zeroValue196
 t173:=Tryz.underlying200
 a173:=Tryz.isAgg200
 z173:=Tryz.sizeOf200
 v173:=Tryz.zeroValue200
 t175:=Tryz.underlying252
 a175:=Tryz.isAgg252
 z175:=Tryz.sizeOf252
 v175:=Tryz.zeroValue252
 t210:=Tryz.underlying255
 a210:=Tryz.isAgg255
 z210:=Tryz.sizeOf255
 v210:=Tryz.zeroValue255
 t212:=Tryz.underlying245
 a212:=Tryz.isAgg245
 z212:=Tryz.sizeOf245
 v212:=Tryz.zeroValue245
 t213:=Tryz.underlying246
 a213:=Tryz.isAgg246
 z213:=Tryz.sizeOf246
 t232:=Tryz.underlying300
 a232:=Tryz.isAgg300
 z232:=Tryz.sizeOf300
 v232:=Tryz.zeroValue300
 t233:=Tryz.underlying301
 a233:=Tryz.isAgg301
 z233:=Tryz.sizeOf301
 v233:=Tryz.zeroValue301
 g15:=by kernel_rfl
 g16:=by kernel_rfl
 g17:=by kernel_rfl
 g18:=by kernel_rfl
 g19:=by kernel_rfl}
open Go.RowKit in
theorem Tryz.strconv_Atoi (s:ByteArray) (n:Int) (hl:s.size≤18) (h:Lib.atoi s.data.toList=some n) (w:World):
  Calls Tryz.prog 68 #[.string s] w fun e w'=>e= .returned (.tuple #[.int .i64 n,.nilIface])∧∃ t,w'=Lib.bytesWorld w 5 t:=Any.strconv_Atoi Tryz.lays172 s n hl h w
def Tryz.lays318_ren:Go.Shelf.Ren:=⟨fun|318=>218|n=>n,fun|3=>3|4=>4|n=>n,fun|n=>n⟩
def Tryz.laysM246_ren:Go.Shelf.Ren:=⟨fun|246=>89|283=>152|284=>153|285=>154|286=>155|129=>217|317=>216|318=>218|319=>219|320=>220|337=>259|338=>260|n=>n,fun|2=>2|3=>3|9=>9|4=>4|171=>196|0=>0|53=>197|37=>103|5=>5|173=>200|212=>245|51=>212|20=>20|213=>246|46=>153|232=>300|233=>301|n=>n,fun|17=>1|18=>6|19=>7|n=>n⟩
def Tryz.laysM243_ren:Go.Shelf.Ren:=⟨fun|243=>61|246=>89|283=>152|284=>153|285=>154|286=>155|129=>217|317=>216|318=>218|319=>219|320=>220|337=>259|338=>260|n=>n,fun|3=>3|9=>9|2=>2|4=>4|171=>196|0=>0|53=>197|37=>103|5=>5|173=>200|212=>245|51=>212|20=>20|213=>246|46=>153|232=>300|233=>301|n=>n,fun|17=>1|18=>6|19=>7|n=>n⟩
def Tryz.laysM171_ren:Go.Shelf.Ren:=⟨fun|171=>33|243=>61|246=>89|283=>152|284=>153|285=>154|286=>155|129=>217|317=>216|318=>218|319=>219|320=>220|337=>259|338=>260|n=>n,fun|3=>3|9=>9|2=>2|4=>4|171=>196|0=>0|53=>197|37=>103|5=>5|173=>200|212=>245|51=>212|20=>20|213=>246|46=>153|232=>300|233=>301|n=>n,fun|17=>1|18=>6|19=>7|n=>n⟩
theorem Tryz.laysM171:Go.Proofs.LaysM.n171 Tryz.prog Tryz.laysM171_ren:={
 mixed:=by kernel_rfl
 f129:=Tryz.func217.trans (congrArg some (by kernel_rfl))
 f171:=Tryz.func33.trans (congrArg some (by kernel_rfl))
 f243:=Tryz.func61.trans (congrArg some (by kernel_rfl))
 f246:=Tryz.func89.trans (congrArg some (by kernel_rfl))
 f283:=Tryz.func152.trans (congrArg some (by kernel_rfl))
 f284:=Tryz.func153.trans (congrArg some (by kernel_rfl))
 f285:=Tryz.func154.trans (congrArg some (by kernel_rfl))
 f286:=Tryz.func155.trans (congrArg some (by kernel_rfl))
 f317:=Tryz.func216.trans (congrArg some (by kernel_rfl))
 f318:=Tryz.func218.trans (congrArg some (by kernel_rfl))
 f319:=Tryz.func219.trans (congrArg some (by kernel_rfl))
 f320:=Tryz.func220.trans (congrArg some (by kernel_rfl))
 f337:=Tryz.func259.trans (congrArg some (by kernel_rfl))
 f338:=Tryz.func260.trans (congrArg some (by kernel_rfl))
 t0:=Tryz.underlying0
 a0:=Tryz.isAgg0
 z0:=Tryz.sizeOf0
 v0:=Tryz.zeroValue0
 t2:=Tryz.underlying2
 a2:=Tryz.isAgg2
 z2:=Tryz.sizeOf2
 v2:=Tryz.zeroValue2
 t3:=Tryz.underlying3
 a3:=Tryz.isAgg3
 z3:=Tryz.sizeOf3
 v3:=Tryz.zeroValue3
 t4:=Tryz.underlying4
 a4:=Tryz.isAgg4
 z4:=Tryz.sizeOf4
 v4:=Tryz.zeroValue4
 t5:=Tryz.underlying5
 a5:=Tryz.isAgg5
 z5:=Tryz.sizeOf5
 v5:=Tryz.zeroValue5
 t9:=Tryz.underlying9
 a9:=Tryz.isAgg9
 z9:=Tryz.sizeOf9
 v9:=Tryz.zeroValue9
 t20:=Tryz.underlying20
 a20:=Tryz.isAgg20
 z20:=Tryz.sizeOf20
 v20:=Tryz.zeroValue20
 t37:=Tryz.underlying103
 a37:=Tryz.isAgg103
 z37:=Tryz.sizeOf103
 v37:=Tryz.zeroValue103
 t46:=Tryz.underlying153
 a46:=Tryz.isAgg153
 z46:=Tryz.sizeOf153
 v46:=Tryz.zeroValue153
 t51:=Tryz.underlying212
 a51:=Tryz.isAgg212
 z51:=Tryz.sizeOf212
 v51:=Tryz.zeroValue212
 t53:=Tryz.underlying197
 a53:=Tryz.isAgg197
 z53:=Tryz.sizeOf197
 v53:=Tryz.zeroValue197
 t171:=Tryz.underlying196
 a171:=Tryz.isAgg196
 z171:=Tryz.sizeOf196
 v171:=Tryz.zeroValue196
 t173:=Tryz.underlying200
 a173:=Tryz.isAgg200
 z173:=Tryz.sizeOf200
 v173:=Tryz.zeroValue200
 t212:=Tryz.underlying245
 a212:=Tryz.isAgg245
 z212:=Tryz.sizeOf245
 v212:=Tryz.zeroValue245
 t213:=Tryz.underlying246
 a213:=Tryz.isAgg246
 z213:=Tryz.sizeOf246
 t232:=Tryz.underlying300
 a232:=Tryz.isAgg300
 z232:=Tryz.sizeOf300
 v232:=Tryz.zeroValue300
 t233:=Tryz.underlying301
 a233:=Tryz.isAgg301
 z233:=Tryz.sizeOf301
 v233:=Tryz.zeroValue301
 g17:=by kernel_rfl
 g18:=by kernel_rfl
 g19:=by kernel_rfl
 i0:=by kernel_rfl
 i2:=by kernel_rfl
 i3:=by kernel_rfl
 i4:=by kernel_rfl
 i5:=by kernel_rfl
 i9:=by kernel_rfl
 i20:=by kernel_rfl
 i37:=by kernel_rfl
 i46:=by kernel_rfl
 i51:=by kernel_rfl
 i53:=by kernel_rfl
 i171:=by kernel_rfl
 i173:=by kernel_rfl
 i212:=by kernel_rfl
 i232:=by kernel_rfl
 i233:=by kernel_rfl
 m17:=by kernel_rfl
 m18:=by kernel_rfl
 m19:=by kernel_rfl}
open Go.RowKit Go.Sort Go.Lib in
theorem Tryz.strconv_Itoa (n : Int) (h0 : -9223372036854775808 ≤ n) (h1 : n ≤ 9223372036854775807) (w : World) (htab : Lib.TabIs Tryz.prog w "internal/strconv.uint64pow10" .u64 Lib.pow10Tab) :
  Calls Tryz.prog 33 #[.int .i64 n] w fun e w'=>e= .returned (.string ⟨(Lib.itoa n).toArray⟩)∧∃ k os,w'=grow (w.drewN k) os:=Any.strconv_Itoa Tryz.laysM171 n h0 h1 w htab
def Tryz.laysM316_ren:Go.Shelf.Ren:=⟨fun|316=>54|n=>n,fun|9=>9|3=>3|4=>4|37=>103|0=>0|127=>113|5=>5|n=>n,fun|n=>n⟩
theorem Tryz.laysM316:Go.Proofs.LaysM.n316 Tryz.prog Tryz.laysM316_ren:={
 mixed:=by kernel_rfl
 f316:=Tryz.func54.trans (congrArg some (by kernel_rfl))
 t0:=Tryz.underlying0
 a0:=Tryz.isAgg0
 z0:=Tryz.sizeOf0
 v0:=Tryz.zeroValue0
 t3:=Tryz.underlying3
 a3:=Tryz.isAgg3
 z3:=Tryz.sizeOf3
 v3:=Tryz.zeroValue3
 t4:=Tryz.underlying4
 a4:=Tryz.isAgg4
 z4:=Tryz.sizeOf4
 v4:=Tryz.zeroValue4
 t9:=Tryz.underlying9
 a9:=Tryz.isAgg9
 z9:=Tryz.sizeOf9
 v9:=Tryz.zeroValue9
 t37:=Tryz.underlying103
 a37:=Tryz.isAgg103
 z37:=Tryz.sizeOf103
 v37:=Tryz.zeroValue103
 t127:=Tryz.underlying113
 a127:=Tryz.isAgg113
 z127:=Tryz.sizeOf113
 v127:=Tryz.zeroValue113
 t5:=Tryz.underlying5
 a5:=Tryz.isAgg5
 z5:=Tryz.sizeOf5
 v5:=Tryz.zeroValue5
 i0:=by kernel_rfl
 i3:=by kernel_rfl
 i4:=by kernel_rfl
 i5:=by kernel_rfl
 i9:=by kernel_rfl
 i37:=by kernel_rfl
 i127:=by kernel_rfl}
open Go.RowKit in
theorem Tryz.stringslite_Clone (s:ByteArray) (w:World) (hlim:s.size≤281474976710656):
  Calls Tryz.prog 54 #[.string s] w fun e w'=>e= .returned (.string s)∧Below w.heap.size w w':=Any.stringslite_Clone Tryz.laysM316 s w hlim
def Tryz.lays219_ren:Go.Shelf.Ren:=⟨fun|219=>73|217=>107|225=>108|224=>109|267=>110|266=>173|314=>174|n=>n,fun|9=>9|3=>3|4=>4|5=>5|46=>153|146=>213|51=>212|n=>n,fun|1=>0|n=>n⟩
def Tryz.lays144_ren:Go.Shelf.Ren:=⟨fun|144=>178|143=>172|219=>73|217=>107|225=>108|224=>109|267=>110|266=>173|314=>174|n=>n,fun|9=>9|4=>4|3=>3|5=>5|46=>153|146=>213|51=>212|n=>n,fun|1=>0|n=>n⟩
theorem Tryz.lays144:Go.Proofs.Lays.n144 Tryz.prog Tryz.lays144_ren:={
 mixed:=by kernel_rfl
 f143:=Tryz.func172.trans (congrArg some (by kernel_rfl))
 f144:=Tryz.func178.trans (congrArg some (by kernel_rfl))
 f217:=Tryz.func107.trans (congrArg some (by kernel_rfl))
 f219:=Tryz.func73.trans (congrArg some (by kernel_rfl))
 f224:=Tryz.func109.trans (congrArg some (by kernel_rfl))
 f225:=Tryz.func108.trans (congrArg some (by kernel_rfl))
 f266:=Tryz.func173.trans (congrArg some (by kernel_rfl))
 f267:=Tryz.func110.trans (congrArg some (by kernel_rfl))
 f314:=Tryz.func174.trans (congrArg some (by kernel_rfl))
 t3:=Tryz.underlying3
 a3:=Tryz.isAgg3
 z3:=Tryz.sizeOf3
 v3:=Tryz.zeroValue3
 t4:=Tryz.underlying4
 a4:=Tryz.isAgg4
 z4:=Tryz.sizeOf4
 v4:=Tryz.zeroValue4
 t5:=Tryz.underlying5
 a5:=Tryz.isAgg5
 z5:=Tryz.sizeOf5
 v5:=Tryz.zeroValue5
 t9:=Tryz.underlying9
 a9:=Tryz.isAgg9
 z9:=Tryz.sizeOf9
 v9:=Tryz.zeroValue9
 t46:=Tryz.underlying153
 a46:=Tryz.isAgg153
 z46:=Tryz.sizeOf153
 v46:=Tryz.zeroValue153
 t51:=Tryz.underlying212
 a51:=Tryz.isAgg212
 z51:=Tryz.sizeOf212
 v51:=Tryz.zeroValue212
 t146:=Tryz.underlying213
 a146:=Tryz.isAgg213
 z146:=Tryz.sizeOf213
 v146:=Tryz.zeroValue213
 g1:=by kernel_rfl}
open Go.RowKit Go.Lib in
theorem Tryz.strings_Contains (s sub:ByteArray) (m:Int) (w:World) (hs:s.size<4294967281) (hm:w.cell? ⟨0,0,none⟩=some (.int .i64 m)):
  Calls Tryz.prog 178 #[.string s,.string sub] w fun e w'=>e= .returned (.bool (Lib.contains s.data.toList sub.data.toList))∧w'=w:=Any.strings_Contains Tryz.lays144 s sub m w hs hm
def Tryz.lays145_ren:Go.Shelf.Ren:=⟨fun|145=>21|220=>53|219=>73|217=>107|225=>108|224=>109|267=>110|266=>173|314=>174|n=>n,fun|9=>9|4=>4|59=>51|3=>3|5=>5|46=>153|146=>213|51=>212|n=>n,fun|1=>0|n=>n⟩
theorem Tryz.lays145:Go.Proofs.Lays.n145 Tryz.prog Tryz.lays145_ren:={
 mixed:=by kernel_rfl
 f145:=Tryz.func21.trans (congrArg some (by kernel_rfl))
 f217:=Tryz.func107.trans (congrArg some (by kernel_rfl))
 f219:=Tryz.func73.trans (congrArg some (by kernel_rfl))
 f220:=Tryz.func53.trans (congrArg some (by kernel_rfl))
 f224:=Tryz.func109.trans (congrArg some (by kernel_rfl))
 f225:=Tryz.func108.trans (congrArg some (by kernel_rfl))
 f266:=Tryz.func173.trans (congrArg some (by kernel_rfl))
 f267:=Tryz.func110.trans (congrArg some (by kernel_rfl))
 f314:=Tryz.func174.trans (congrArg some (by kernel_rfl))
 t3:=Tryz.underlying3
 a3:=Tryz.isAgg3
 z3:=Tryz.sizeOf3
 v3:=Tryz.zeroValue3
 t4:=Tryz.underlying4
 a4:=Tryz.isAgg4
 z4:=Tryz.sizeOf4
 v4:=Tryz.zeroValue4
 t5:=Tryz.underlying5
 a5:=Tryz.isAgg5
 z5:=Tryz.sizeOf5
 v5:=Tryz.zeroValue5
 t9:=Tryz.underlying9
 a9:=Tryz.isAgg9
 z9:=Tryz.sizeOf9
 v9:=Tryz.zeroValue9
 t46:=Tryz.underlying153
 a46:=Tryz.isAgg153
 z46:=Tryz.sizeOf153
 v46:=Tryz.zeroValue153
 t51:=Tryz.underlying212
 a51:=Tryz.isAgg212
 z51:=Tryz.sizeOf212
 v51:=Tryz.zeroValue212
 t59:=Tryz.underlying51
 a59:=Tryz.isAgg51
 z59:=Tryz.sizeOf51
 v59:=Tryz.zeroValue51
 t146:=Tryz.underlying213
 a146:=Tryz.isAgg213
 z146:=Tryz.sizeOf213
 v146:=Tryz.zeroValue213
 g1:=by kernel_rfl}
open Go.RowKit Go.Lib in
theorem Tryz.strings_Cut (s sep:ByteArray) (m:Int) (w:World) (hs:s.size<4294967281) (hm:w.cell? ⟨0,0,none⟩=some (.int .i64 m)):
  Calls Tryz.prog 21 #[.string s,.string sep] w fun e w'=>e= .returned (.tuple #[.string ⟨(Lib.cut s.data.toList sep.data.toList).1.toArray⟩,.string ⟨(Lib.cut s.data.toList sep.data.toList).2.1.toArray⟩,.bool (Lib.cut s.data.toList sep.data.toList).2.2])∧∃ n,w'=w.drewN n:=Any.strings_Cut Tryz.lays145 s sep m w hs hm
def Tryz.lays221_ren:Go.Shelf.Ren:=⟨fun|221=>105|268=>170|138=>171|143=>172|195=>228|197=>162|218=>229|219=>73|260=>223|217=>107|225=>108|224=>109|267=>110|266=>173|314=>174|n=>n,fun|9=>9|3=>3|31=>22|4=>4|0=>0|105=>202|21=>21|5=>5|46=>153|119=>278|139=>281|138=>280|146=>213|51=>212|n=>n,fun|1=>0|3=>4|4=>5|n=>n⟩
def Tryz.lays146_ren:Go.Shelf.Ren:=⟨fun|146=>69|221=>105|268=>170|138=>171|143=>172|195=>228|197=>162|218=>229|219=>73|260=>223|217=>107|225=>108|224=>109|267=>110|266=>173|314=>174|n=>n,fun|9=>9|31=>22|3=>3|4=>4|0=>0|105=>202|21=>21|5=>5|46=>153|119=>278|139=>281|138=>280|146=>213|51=>212|n=>n,fun|1=>0|3=>4|4=>5|n=>n⟩
theorem Tryz.lays146:Go.Proofs.Lays.n146 Tryz.prog Tryz.lays146_ren:={
 mixed:=by kernel_rfl
 f138:=Tryz.func171.trans (congrArg some (by kernel_rfl))
 f143:=Tryz.func172.trans (congrArg some (by kernel_rfl))
 f146:=Tryz.func69.trans (congrArg some (by kernel_rfl))
 f195:=Tryz.func228.trans (congrArg some (by kernel_rfl))
 f197:=Tryz.func162.trans (congrArg some (by kernel_rfl))
 f217:=Tryz.func107.trans (congrArg some (by kernel_rfl))
 f218:=Tryz.func229.trans (congrArg some (by kernel_rfl))
 f219:=Tryz.func73.trans (congrArg some (by kernel_rfl))
 f221:=Tryz.func105.trans (congrArg some (by kernel_rfl))
 f224:=Tryz.func109.trans (congrArg some (by kernel_rfl))
 f225:=Tryz.func108.trans (congrArg some (by kernel_rfl))
 f260:=Tryz.func223.trans (congrArg some (by kernel_rfl))
 f266:=Tryz.func173.trans (congrArg some (by kernel_rfl))
 f267:=Tryz.func110.trans (congrArg some (by kernel_rfl))
 f268:=Tryz.func170.trans (congrArg some (by kernel_rfl))
 f314:=Tryz.func174.trans (congrArg some (by kernel_rfl))
 t0:=Tryz.underlying0
 a0:=Tryz.isAgg0
 z0:=Tryz.sizeOf0
 v0:=Tryz.zeroValue0
 t3:=Tryz.underlying3
 a3:=Tryz.isAgg3
 z3:=Tryz.sizeOf3
 v3:=Tryz.zeroValue3
 t4:=Tryz.underlying4
 a4:=Tryz.isAgg4
 z4:=Tryz.sizeOf4
 v4:=Tryz.zeroValue4
 t5:=Tryz.underlying5
 a5:=Tryz.isAgg5
 z5:=Tryz.sizeOf5
 v5:=Tryz.zeroValue5
 t9:=Tryz.underlying9
 a9:=Tryz.isAgg9
 z9:=Tryz.sizeOf9
 v9:=Tryz.zeroValue9
 t21:=Tryz.underlying21
 a21:=Tryz.isAgg21
 z21:=Tryz.sizeOf21
 v21:=Tryz.zeroValue21
 t31:=Tryz.underlying22
 a31:=Tryz.isAgg22
 z31:=Tryz.sizeOf22
 v31:=Tryz.zeroValue22
 t46:=Tryz.underlying153
 a46:=Tryz.isAgg153
 z46:=Tryz.sizeOf153
 v46:=Tryz.zeroValue153
 t51:=Tryz.underlying212
 a51:=Tryz.isAgg212
 z51:=Tryz.sizeOf212
 v51:=Tryz.zeroValue212
 t105:=Tryz.underlying202
 a105:=Tryz.isAgg202
 z105:=Tryz.sizeOf202
 v105:=Tryz.zeroValue202
 t119:=Tryz.underlying278
 a119:=Tryz.isAgg278
 z119:=Tryz.sizeOf278
 t138:=Tryz.underlying280
 a138:=Tryz.isAgg280
 z138:=Tryz.sizeOf280
 v138:=Tryz.zeroValue280
 t139:=Tryz.underlying281
 a139:=Tryz.isAgg281
 z139:=Tryz.sizeOf281
 v139:=Tryz.zeroValue281
 t146:=Tryz.underlying213
 a146:=Tryz.isAgg213
 z146:=Tryz.sizeOf213
 v146:=Tryz.zeroValue213
 g1:=by kernel_rfl
 g3:=by kernel_rfl
 g4:=by kernel_rfl}
open Go.RowKit Go.Lib in
theorem Tryz.strings_Split (s sep:ByteArray) (m:Int) (w:World) (hs:s.size<4294967281) (hm:w.cell? ⟨0,0,none⟩=some (.int .i64 m)) (h1:1≤sep.size):
  Calls Tryz.prog 69 #[.string s,.string sep] w fun e w'=>
   e= .returned (.slice (some ⟨w.heap.size,0,none⟩) (Lib.countB s sep+1) (Lib.countB s sep+1))∧w'=w.alloc (.cells ((Lib.splitB sep 0 (Lib.countB s sep) s).map Value.string).toArray 9):=Any.strings_Split Tryz.lays146 (by kernel_rfl) s sep m w hs hm h1
def Tryz.lays152_ren:Go.Shelf.Ren:=⟨fun|152=>224|137=>175|119=>261|224=>109|225=>108|217=>107|266=>173|n=>n,fun|9=>9|21=>21|3=>3|4=>4|5=>5|0=>0|46=>153|n=>n,fun|n=>n⟩
theorem Tryz.lays152:Go.Proofs.Lays.n152 Tryz.prog Tryz.lays152_ren:={
 mixed:=by kernel_rfl
 f119:=Tryz.func261.trans (congrArg some (by kernel_rfl))
 f137:=Tryz.func175.trans (congrArg some (by kernel_rfl))
 f152:=Tryz.func224.trans (congrArg some (by kernel_rfl))
 f217:=Tryz.func107.trans (congrArg some (by kernel_rfl))
 f224:=Tryz.func109.trans (congrArg some (by kernel_rfl))
 f225:=Tryz.func108.trans (congrArg some (by kernel_rfl))
 f266:=Tryz.func173.trans (congrArg some (by kernel_rfl))
 t0:=Tryz.underlying0
 a0:=Tryz.isAgg0
 z0:=Tryz.sizeOf0
 v0:=Tryz.zeroValue0
 t3:=Tryz.underlying3
 a3:=Tryz.isAgg3
 z3:=Tryz.sizeOf3
 v3:=Tryz.zeroValue3
 t4:=Tryz.underlying4
 a4:=Tryz.isAgg4
 z4:=Tryz.sizeOf4
 v4:=Tryz.zeroValue4
 t5:=Tryz.underlying5
 a5:=Tryz.isAgg5
 z5:=Tryz.sizeOf5
 v5:=Tryz.zeroValue5
 t9:=Tryz.underlying9
 a9:=Tryz.isAgg9
 z9:=Tryz.sizeOf9
 v9:=Tryz.zeroValue9
 t21:=Tryz.underlying21
 a21:=Tryz.isAgg21
 z21:=Tryz.sizeOf21
 v21:=Tryz.zeroValue21
 t46:=Tryz.underlying153
 a46:=Tryz.isAgg153
 z46:=Tryz.sizeOf153
 v46:=Tryz.zeroValue153}
open Go.RowKit Go.Lib in
theorem Tryz.strings_IndexRune_ascii (s:ByteArray) (r:Int) (w:World) (h0:0≤r) (h1:r<128):
  Calls Tryz.prog 224 #[.string s,.int .i32 r] w fun e w'=>e= .returned (.int .i64 (Lib.indexByte s.data.toList r.toNat.toUInt8))∧w'=w:=Any.strings_IndexRune_ascii Tryz.lays152 s r w h0 h1
def Tryz.lays226_ren:Go.Shelf.Ren:=⟨fun|226=>230|n=>n,fun|3=>3|4=>4|n=>n,fun|n=>n⟩
theorem Tryz.lays226:Go.Proofs.Lays.n226 Tryz.prog Tryz.lays226_ren:={
 mixed:=by kernel_rfl
 f226:=Tryz.func230.trans (congrArg some (by kernel_rfl))
 t3:=Tryz.underlying3
 a3:=Tryz.isAgg3
 z3:=Tryz.sizeOf3
 v3:=Tryz.zeroValue3
 t4:=Tryz.underlying4
 a4:=Tryz.isAgg4
 z4:=Tryz.sizeOf4
 v4:=Tryz.zeroValue4}
open Go.RowKit Go.Lib in
theorem Tryz.strings_shouldUseASCIISet (n:Int) (w:World):
  Calls Tryz.prog 230 #[.int .i64 n] w fun e w'=>e= .returned (.bool (decide (8<n)))∧w'=w:=Any.strings_shouldUseASCIISet Tryz.lays226 n w
def Tryz.lays153_ren:Go.Shelf.Ren:=⟨fun|153=>176|152=>224|226=>230|227=>98|228=>161|137=>175|119=>261|224=>109|225=>108|217=>107|266=>173|n=>n,fun|9=>9|3=>3|4=>4|5=>5|21=>21|117=>145|116=>144|0=>0|46=>153|124=>148|n=>n,fun|n=>n⟩
theorem Tryz.lays153:Go.Proofs.Lays.n153 Tryz.prog Tryz.lays153_ren:={
 mixed:=by kernel_rfl
 f119:=Tryz.func261.trans (congrArg some (by kernel_rfl))
 f137:=Tryz.func175.trans (congrArg some (by kernel_rfl))
 f152:=Tryz.func224.trans (congrArg some (by kernel_rfl))
 f153:=Tryz.func176.trans (congrArg some (by kernel_rfl))
 f217:=Tryz.func107.trans (congrArg some (by kernel_rfl))
 f224:=Tryz.func109.trans (congrArg some (by kernel_rfl))
 f225:=Tryz.func108.trans (congrArg some (by kernel_rfl))
 f226:=Tryz.func230.trans (congrArg some (by kernel_rfl))
 f227:=Tryz.func98.trans (congrArg some (by kernel_rfl))
 f228:=Tryz.func161.trans (congrArg some (by kernel_rfl))
 f266:=Tryz.func173.trans (congrArg some (by kernel_rfl))
 t0:=Tryz.underlying0
 a0:=Tryz.isAgg0
 z0:=Tryz.sizeOf0
 v0:=Tryz.zeroValue0
 t3:=Tryz.underlying3
 a3:=Tryz.isAgg3
 z3:=Tryz.sizeOf3
 v3:=Tryz.zeroValue3
 t4:=Tryz.underlying4
 a4:=Tryz.isAgg4
 z4:=Tryz.sizeOf4
 v4:=Tryz.zeroValue4
 t5:=Tryz.underlying5
 a5:=Tryz.isAgg5
 z5:=Tryz.sizeOf5
 v5:=Tryz.zeroValue5
 t9:=Tryz.underlying9
 a9:=Tryz.isAgg9
 z9:=Tryz.sizeOf9
 v9:=Tryz.zeroValue9
 t21:=Tryz.underlying21
 a21:=Tryz.isAgg21
 z21:=Tryz.sizeOf21
 v21:=Tryz.zeroValue21
 t46:=Tryz.underlying153
 a46:=Tryz.isAgg153
 z46:=Tryz.sizeOf153
 v46:=Tryz.zeroValue153
 t116:=Tryz.underlying144
 a116:=Tryz.isAgg144
 z116:=Tryz.sizeOf144
 t117:=Tryz.underlying145
 a117:=Tryz.isAgg145
 z117:=Tryz.sizeOf145
 v117:=Tryz.zeroValue145
 t124:=Tryz.underlying148
 a124:=Tryz.isAgg148
 z124:=Tryz.sizeOf148
 v124:=Tryz.zeroValue148}
open Go.RowKit Go.Lib in
theorem Tryz.strings_IndexAny_long (hv116:∀ w,(zeroValue 144).run Tryz.prog w= .ok (.agg (Array.replicate 256 (.bool false))) w) (s chars:ByteArray) (w:World) (h2:2≤chars.size) (h8:8<s.size) (hs:s.size<4294967281) (hcs:chars.size<4294967281) (hascii:∀ (j:Nat) b,chars.data.toList[j]?=some b→b.toNat<128):
  Calls Tryz.prog 176 #[.string s,.string chars] w fun e w'=>e= .returned (.int .i64 (Lib.indexAny s.data.toList chars.data.toList))∧w'=((w.alloc (.cells (Lib.setCells chars.data.toList) 144)).alloc (.cells (Lib.setCells chars.data.toList) 144)):=Any.strings_IndexAny_long Tryz.lays153 hv116 (by kernel_rfl) s chars w h2 h8 hs hcs hascii
def Tryz.lays196_ren:Go.Shelf.Ren:=⟨fun|196=>288|259=>302|n=>n,fun|9=>9|4=>4|3=>3|5=>5|12=>12|119=>278|0=>0|46=>153|139=>281|138=>280|53=>197|n=>n,fun|3=>4|4=>5|n=>n⟩
theorem Tryz.lays196:Go.Proofs.Lays.n196 Tryz.prog Tryz.lays196_ren:={
 mixed:=by kernel_rfl
 f196:=Tryz.func288.trans (congrArg some (by kernel_rfl))
 f259:=Tryz.func302.trans (congrArg some (by kernel_rfl))
 t0:=Tryz.underlying0
 a0:=Tryz.isAgg0
 z0:=Tryz.sizeOf0
 v0:=Tryz.zeroValue0
 t3:=Tryz.underlying3
 a3:=Tryz.isAgg3
 z3:=Tryz.sizeOf3
 v3:=Tryz.zeroValue3
 t4:=Tryz.underlying4
 a4:=Tryz.isAgg4
 z4:=Tryz.sizeOf4
 v4:=Tryz.zeroValue4
 t5:=Tryz.underlying5
 a5:=Tryz.isAgg5
 z5:=Tryz.sizeOf5
 v5:=Tryz.zeroValue5
 t9:=Tryz.underlying9
 a9:=Tryz.isAgg9
 z9:=Tryz.sizeOf9
 v9:=Tryz.zeroValue9
 t12:=Tryz.underlying12
 a12:=Tryz.isAgg12
 z12:=Tryz.sizeOf12
 v12:=Tryz.zeroValue12
 t46:=Tryz.underlying153
 a46:=Tryz.isAgg153
 z46:=Tryz.sizeOf153
 v46:=Tryz.zeroValue153
 t53:=Tryz.underlying197
 a53:=Tryz.isAgg197
 z53:=Tryz.sizeOf197
 v53:=Tryz.zeroValue197
 t119:=Tryz.underlying278
 a119:=Tryz.isAgg278
 z119:=Tryz.sizeOf278
 t138:=Tryz.underlying280
 a138:=Tryz.isAgg280
 z138:=Tryz.sizeOf280
 v138:=Tryz.zeroValue280
 t139:=Tryz.underlying281
 a139:=Tryz.isAgg281
 z139:=Tryz.sizeOf281
 v139:=Tryz.zeroValue281
 g3:=by kernel_rfl
 g4:=by kernel_rfl}
open Go.RowKit in
theorem Tryz.utf8_ValidString (s:ByteArray) (w:World) (hs:s.size≤9223372036854775807) (hT:Lib.Utf8Tabs (Tryz.lays196_ren.g 3) (Tryz.lays196_ren.g 4) w):
  Calls Tryz.prog 288 #[.string s] w fun e w'=>e= .returned (.bool (Lib.validD s.data.toList))∧Below w.heap.size w w':=Any.utf8_ValidString Tryz.lays196 s w hs hT
open Go.RowKit in
theorem Tryz.strings_Trim_set (s cs:ByteArray) (w:World) (hs:s.size≤9223372036854775807) (hc:cs.size<4294967281) (ha:∀ (j:Nat) b,cs.data.toList[j]?=some b→b.toNat<128):
  Calls Tryz.prog 67 #[.string s,.string cs] w fun e w'=>e= .returned (.string ⟨(Lib.trimS s.data.toList cs.data.toList).toArray⟩)∧Below w.heap.size w w':=Any.strings_Trim_laid Tryz.lays160 (by kernel_rfl) s cs w hs hc ha
end Go.Proofs
