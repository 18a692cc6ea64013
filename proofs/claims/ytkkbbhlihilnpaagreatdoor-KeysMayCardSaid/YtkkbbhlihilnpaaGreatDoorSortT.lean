/-
 DERIVED: THE SHELF's CONTRACTS AT THIS DUMP, IN PLAIN WORDS (tools/lay-plain.mjs out of 'TryzSortT.lean', which tools/lay-shelf.mjs wrote): THE SAME DECLARATIONS UNDER THE SAME NAMES: 'import', 'namespace', 'open', 'def', 'theorem' AND NOTHING ELSE: no command of the shelf's: FOR A HAND-IN. Each laying: the table of numbers ('.._ren') and one theorem, a field a fact of the dump's own or the kernel's comparison; each contract: ONE APPLICATION.
-/
import Derived.Shelf.SlSortCmp.Small
import Derived.Ground.SlsfProg
import Derived.Test.YtkkbbhlihilnpaaGreatDoorProg
namespace Go.Proofs
open Go.Shelf
def Tryz.sortText_ren : Go.Shelf.Ren := ⟨fun | 14 => 117 | 20 => 168 | 21 => 169 | 22 => 170 | 23 => 171 | 24 => 172 | 25 => 173 | 26 => 174 | 27 => 175 | 46 => 219 | 47 => 220 | 48 => 221 | 49 => 222 | 50 => 223 | 15 => 118 | 57 => 256 | 28 => 176 | 29 => 177 | n => n, fun | 24 => 9 | 22 => 23 | 3 => 3 | 25 => 114 | 4 => 4 | 0 => 0 | 46 => 219 | 45 => 218 | 50 => 223 | 66 => 265 | 39 => 181 | 55 => 227 | 70 => 269 | 76 => 287 | 77 => 288 | 53 => 216 | 5 => 5 | 9 => 9 | n => n, fun | n => n⟩
theorem Tryz.sortText : Go.Proofs.SlLaysF.n14 Tryz.prog Tryz.sortText_ren := {
 mixed := by kernel_rfl
 f14 := ⟨Tryz.f117.name, by decide, Tryz.func117.trans (congrArg some (by kernel_rfl))⟩
 f15 := Tryz.func118.trans (congrArg some (by kernel_rfl))
 f20 := ⟨Tryz.f168.name, by decide, Tryz.func168.trans (congrArg some (by kernel_rfl))⟩
 f21 := ⟨Tryz.f169.name, by decide, Tryz.func169.trans (congrArg some (by kernel_rfl))⟩
 f22 := ⟨Tryz.f170.name, by decide, Tryz.func170.trans (congrArg some (by kernel_rfl))⟩
 f23 := ⟨Tryz.f171.name, by decide, Tryz.func171.trans (congrArg some (by kernel_rfl))⟩
 f24 := ⟨Tryz.f172.name, by decide, Tryz.func172.trans (congrArg some (by kernel_rfl))⟩
 f25 := ⟨Tryz.f173.name, by decide, Tryz.func173.trans (congrArg some (by kernel_rfl))⟩
 f26 := ⟨Tryz.f174.name, by decide, Tryz.func174.trans (congrArg some (by kernel_rfl))⟩
 f27 := ⟨Tryz.f175.name, by decide, Tryz.func175.trans (congrArg some (by kernel_rfl))⟩
 f28 := Tryz.func176.trans (congrArg some (by kernel_rfl))
 f29 := Tryz.func177.trans (congrArg some (by kernel_rfl))
 f46 := ⟨Tryz.f219.name, by decide, Tryz.func219.trans (congrArg some (by kernel_rfl))⟩
 f47 := Tryz.func220.trans (congrArg some (by kernel_rfl))
 f48 := Tryz.func221.trans (congrArg some (by kernel_rfl))
 f49 := ⟨Tryz.f222.name, by decide, Tryz.func222.trans (congrArg some (by kernel_rfl))⟩
 f50 := ⟨Tryz.f223.name, by decide, Tryz.func223.trans (congrArg some (by kernel_rfl))⟩
 f57 := ⟨Tryz.f256.name, by decide, Tryz.func256.trans (congrArg some (by kernel_rfl))⟩
 t0 := Tryz.underlying0
 a0 := Tryz.isAgg0
 z0 := Tryz.sizeOf0
 v0 := Tryz.zeroValue0
 t3 := Tryz.underlying3
 a3 := Tryz.isAgg3
 z3 := Tryz.sizeOf3
 v3 := Tryz.zeroValue3
 t4 := Tryz.underlying4
 a4 := Tryz.isAgg4
 z4 := Tryz.sizeOf4
 v4 := Tryz.zeroValue4
 t5 := Tryz.underlying5
 a5 := Tryz.isAgg5
 z5 := Tryz.sizeOf5
 v5 := Tryz.zeroValue5
 t9 := Tryz.underlying9
 a9 := Tryz.isAgg9
 z9 := Tryz.sizeOf9
 v9 := Tryz.zeroValue9
 t22 := Tryz.underlying23
 a22 := Tryz.isAgg23
 z22 := Tryz.sizeOf23
 v22 := Tryz.zeroValue23
 a24 := Tryz.isAgg9
 z24 := Tryz.sizeOf9
 t25 := Tryz.underlying114
 a25 := Tryz.isAgg114
 z25 := Tryz.sizeOf114
 v25 := Tryz.zeroValue114
 t39 := Tryz.underlying181
 a39 := Tryz.isAgg181
 z39 := Tryz.sizeOf181
 v39 := Tryz.zeroValue181
 t45 := Tryz.underlying218
 a45 := Tryz.isAgg218
 z45 := Tryz.sizeOf218
 v45 := Tryz.zeroValue218
 t46 := Tryz.underlying219
 a46 := Tryz.isAgg219
 z46 := Tryz.sizeOf219
 v46 := Tryz.zeroValue219
 t50 := Tryz.underlying223
 a50 := Tryz.isAgg223
 z50 := Tryz.sizeOf223
 v50 := Tryz.zeroValue223
 t53 := Tryz.underlying216
 a53 := Tryz.isAgg216
 z53 := Tryz.sizeOf216
 v53 := Tryz.zeroValue216
 t55 := Tryz.underlying227
 a55 := Tryz.isAgg227
 z55 := Tryz.sizeOf227
 v55 := Tryz.zeroValue227
 t66 := Tryz.underlying265
 a66 := Tryz.isAgg265
 z66 := Tryz.sizeOf265
 v66 := Tryz.zeroValue265
 t70 := Tryz.underlying269
 a70 := Tryz.isAgg269
 z70 := Tryz.sizeOf269
 v70 := Tryz.zeroValue269
 t76 := Tryz.underlying287
 a76 := Tryz.isAgg287
 z76 := Tryz.sizeOf287
 v76 := Tryz.zeroValue287
 t77 := Tryz.underlying288
 a77 := Tryz.isAgg288
 z77 := Tryz.sizeOf288
 v77 := Tryz.zeroValue288 }
end Go.Proofs
