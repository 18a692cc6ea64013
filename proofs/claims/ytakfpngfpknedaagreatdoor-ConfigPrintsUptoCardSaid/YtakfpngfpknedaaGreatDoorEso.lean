/-
 DERIVED:THE SHELF's CONTRACTS AT THIS DUMP,IN PLAIN WORDS (tools/lay-plain.mjs out of 'TryzSort.lean',which tools/lay-shelf.mjs wrote):THE SAME DECLARATIONS UNDER THE SAME NAMES:'import','namespace','open','def','theorem' AND NOTHING ELSE:no command of the shelf's:FOR A HAND-IN. Each laying:the table of numbers ('.._ren') and one theorem,a field a fact of the dump's own or the kernel's comparison;each contract:ONE APPLICATION.
-/
import Derived.Shelf.SlSortCmp.SmallK
import Derived.Ground.SlsfProg
import Derived.Test.YtakfpngfpknedaaGreatDoorProg
set_option linter.all false
set_option maxHeartbeats 8000000
set_option maxRecDepth 100000
namespace Go.Proofs
open Go.Shelf
def Tryz.sortAva_ren:Go.Shelf.Ren:=⟨fun|14=>253|20=>278|21=>279|22=>280|23=>281|24=>282|25=>283|26=>284|27=>285|46=>296|47=>297|48=>298|49=>299|50=>300|15=>254|57=>308|28=>286|29=>217|n=>n,fun|24=>189|22=>186|3=>3|25=>241|4=>4|0=>0|46=>295|45=>294|50=>87|66=>306|39=>153|55=>197|70=>310|76=>314|77=>315|53=>212|5=>5|9=>9|n=>n,fun|n=>n⟩
theorem Tryz.sortAva:Go.Proofs.SlLaysF0.n14 Tryz.prog Tryz.sortAva_ren:={
 mixed:=by kernel_rfl
 f14:=⟨Tryz.f253.name,by decide,Tryz.func253.trans (congrArg some (by kernel_rfl))⟩
 f15:=Tryz.func254.trans (congrArg some (by kernel_rfl))
 f20:=⟨Tryz.f278.name,by decide,Tryz.func278.trans (congrArg some (by kernel_rfl))⟩
 f21:=⟨Tryz.f279.name,by decide,Tryz.func279.trans (congrArg some (by kernel_rfl))⟩
 f22:=⟨Tryz.f280.name,by decide,Tryz.func280.trans (congrArg some (by kernel_rfl))⟩
 f23:=⟨Tryz.f281.name,by decide,Tryz.func281.trans (congrArg some (by kernel_rfl))⟩
 f24:=⟨Tryz.f282.name,by decide,Tryz.func282.trans (congrArg some (by kernel_rfl))⟩
 f25:=⟨Tryz.f283.name,by decide,Tryz.func283.trans (congrArg some (by kernel_rfl))⟩
 f26:=⟨Tryz.f284.name,by decide,Tryz.func284.trans (congrArg some (by kernel_rfl))⟩
 f27:=⟨Tryz.f285.name,by decide,Tryz.func285.trans (congrArg some (by kernel_rfl))⟩
 f28:=Tryz.func286.trans (congrArg some (by kernel_rfl))
 f29:=Tryz.func217.trans (congrArg some (by kernel_rfl))
 f46:=⟨Tryz.f296.name,by decide,Tryz.func296.trans (congrArg some (by kernel_rfl))⟩
 f47:=Tryz.func297.trans (congrArg some (by kernel_rfl))
 f48:=Tryz.func298.trans (congrArg some (by kernel_rfl))
 f49:=⟨Tryz.f299.name,by decide,Tryz.func299.trans (congrArg some (by kernel_rfl))⟩
 f50:=⟨Tryz.f300.name,by decide,Tryz.func300.trans (congrArg some (by kernel_rfl))⟩
 f57:=⟨Tryz.f308.name,by decide,Tryz.func308.trans (congrArg some (by kernel_rfl))⟩
 t0:=Tryz.underlying0
 a0:=Tryz.isAgg0
 z0:=Tryz.sizeOf0
 v0:=Tryz.zeroValue0
 t3:=Tryz.underlying3
 a3:=Tryz.isAgg3
 z3:=Tryz.sizeOf3
 v3:=Tryz.zeroValue3
 t4:=Tryz.underlying4
 a4:=Tryz.isAgg4
 z4:=Tryz.sizeOf4
 v4:=Tryz.zeroValue4
 t5:=Tryz.underlying5
 a5:=Tryz.isAgg5
 z5:=Tryz.sizeOf5
 v5:=Tryz.zeroValue5
 t9:=Tryz.underlying9
 a9:=Tryz.isAgg9
 z9:=Tryz.sizeOf9
 v9:=Tryz.zeroValue9
 t22:=Tryz.underlying186
 a22:=Tryz.isAgg186
 z22:=Tryz.sizeOf186
 v22:=Tryz.zeroValue186
 t25:=Tryz.underlying241
 a25:=Tryz.isAgg241
 z25:=Tryz.sizeOf241
 v25:=Tryz.zeroValue241
 t39:=Tryz.underlying153
 a39:=Tryz.isAgg153
 z39:=Tryz.sizeOf153
 v39:=Tryz.zeroValue153
 t45:=Tryz.underlying294
 a45:=Tryz.isAgg294
 z45:=Tryz.sizeOf294
 v45:=Tryz.zeroValue294
 t46:=Tryz.underlying295
 a46:=Tryz.isAgg295
 z46:=Tryz.sizeOf295
 v46:=Tryz.zeroValue295
 t50:=Tryz.underlying87
 a50:=Tryz.isAgg87
 z50:=Tryz.sizeOf87
 v50:=Tryz.zeroValue87
 t53:=Tryz.underlying212
 a53:=Tryz.isAgg212
 z53:=Tryz.sizeOf212
 v53:=Tryz.zeroValue212
 t55:=Tryz.underlying197
 a55:=Tryz.isAgg197
 z55:=Tryz.sizeOf197
 v55:=Tryz.zeroValue197
 t66:=Tryz.underlying306
 a66:=Tryz.isAgg306
 z66:=Tryz.sizeOf306
 v66:=Tryz.zeroValue306
 t70:=Tryz.underlying310
 a70:=Tryz.isAgg310
 z70:=Tryz.sizeOf310
 v70:=Tryz.zeroValue310
 t76:=Tryz.underlying314
 a76:=Tryz.isAgg314
 z76:=Tryz.sizeOf314
 v76:=Tryz.zeroValue314
 t77:=Tryz.underlying315
 a77:=Tryz.isAgg315
 z77:=Tryz.sizeOf315
 v77:=Tryz.zeroValue315}
end Go.Proofs
