/-
 DERIVED: THE SHELF's CONTRACTS AT THIS DUMP, IN PLAIN WORDS (tools/lay-plain.mjs out of 'TryzSort.lean', which tools/lay-shelf.mjs wrote): THE SAME DECLARATIONS UNDER THE SAME NAMES: 'import', 'namespace', 'open', 'def', 'theorem' AND NOTHING ELSE: no command of the shelf's: FOR A HAND-IN. Each laying: the table of numbers ('.._ren') and one theorem, a field a fact of the dump's own or the kernel's comparison; each contract: ONE APPLICATION.
-/
import Derived.Shelf.SlSortCmp.SmallK
import Derived.Ground.SlsfProg
import Derived.Test.YtkkbbhlihilnpaaGreatDoorProg
namespace Go.Proofs
open Go.Shelf
def Tryz.sortAva_ren : Go.Shelf.Ren := ⟨fun | 14 => 185 | 20 => 227 | 21 => 228 | 22 => 229 | 23 => 230 | 24 => 231 | 25 => 232 | 26 => 233 | 27 => 234 | 46 => 260 | 47 => 220 | 48 => 221 | 49 => 261 | 50 => 262 | 15 => 118 | 57 => 274 | 28 => 176 | 29 => 177 | n => n, fun | 24 => 123 | 22 => 120 | 3 => 3 | 25 => 190 | 4 => 4 | 0 => 0 | 46 => 219 | 45 => 218 | 50 => 223 | 66 => 265 | 39 => 181 | 55 => 227 | 70 => 269 | 76 => 287 | 77 => 288 | 53 => 216 | 5 => 5 | 9 => 9 | n => n, fun | n => n⟩
theorem Tryz.sortAva : Go.Proofs.SlLaysF0.n14 Tryz.prog Tryz.sortAva_ren := {
 mixed := by kernel_rfl
 f14 := ⟨Tryz.f185.name, by decide, Tryz.func185.trans (congrArg some (by kernel_rfl))⟩
 f15 := Tryz.func118.trans (congrArg some (by kernel_rfl))
 f20 := ⟨Tryz.f227.name, by decide, Tryz.func227.trans (congrArg some (by kernel_rfl))⟩
 f21 := ⟨Tryz.f228.name, by decide, Tryz.func228.trans (congrArg some (by kernel_rfl))⟩
 f22 := ⟨Tryz.f229.name, by decide, Tryz.func229.trans (congrArg some (by kernel_rfl))⟩
 f23 := ⟨Tryz.f230.name, by decide, Tryz.func230.trans (congrArg some (by kernel_rfl))⟩
 f24 := ⟨Tryz.f231.name, by decide, Tryz.func231.trans (congrArg some (by kernel_rfl))⟩
 f25 := ⟨Tryz.f232.name, by decide, Tryz.func232.trans (congrArg some (by kernel_rfl))⟩
 f26 := ⟨Tryz.f233.name, by decide, Tryz.func233.trans (congrArg some (by kernel_rfl))⟩
 f27 := ⟨Tryz.f234.name, by decide, Tryz.func234.trans (congrArg some (by kernel_rfl))⟩
 f28 := Tryz.func176.trans (congrArg some (by kernel_rfl))
 f29 := Tryz.func177.trans (congrArg some (by kernel_rfl))
 f46 := ⟨Tryz.f260.name, by decide, Tryz.func260.trans (congrArg some (by kernel_rfl))⟩
 f47 := Tryz.func220.trans (congrArg some (by kernel_rfl))
 f48 := Tryz.func221.trans (congrArg some (by kernel_rfl))
 f49 := ⟨Tryz.f261.name, by decide, Tryz.func261.trans (congrArg some (by kernel_rfl))⟩
 f50 := ⟨Tryz.f262.name, by decide, Tryz.func262.trans (congrArg some (by kernel_rfl))⟩
 f57 := ⟨Tryz.f274.name, by decide, Tryz.func274.trans (congrArg some (by kernel_rfl))⟩
 t0 := Tryz.underlying0
 a0 := Tryz.isAgg0
 z0 := Tryz.sizeOf0
 v0 := Tryz.zeroValue0
 t3 := Tryz.underlying3
 a3 := Tryz.isAgg3
 z3 := Tryz.sizeOf3
 v3 := Tryz.zeroValue3
 t4 := Tryz.underlying4
 a4 := Tryz.isAgg4
 z4 := Tryz.sizeOf4
 v4 := Tryz.zeroValue4
 t5 := Tryz.underlying5
 a5 := Tryz.isAgg5
 z5 := Tryz.sizeOf5
 v5 := Tryz.zeroValue5
 t9 := Tryz.underlying9
 a9 := Tryz.isAgg9
 z9 := Tryz.sizeOf9
 v9 := Tryz.zeroValue9
 t22 := Tryz.underlying120
 a22 := Tryz.isAgg120
 z22 := Tryz.sizeOf120
 v22 := Tryz.zeroValue120
 t25 := Tryz.underlying190
 a25 := Tryz.isAgg190
 z25 := Tryz.sizeOf190
 v25 := Tryz.zeroValue190
 t39 := Tryz.underlying181
 a39 := Tryz.isAgg181
 z39 := Tryz.sizeOf181
 v39 := Tryz.zeroValue181
 t45 := Tryz.underlying218
 a45 := Tryz.isAgg218
 z45 := Tryz.sizeOf218
 v45 := Tryz.zeroValue218
 t46 := Tryz.underlying219
 a46 := Tryz.isAgg219
 z46 := Tryz.sizeOf219
 v46 := Tryz.zeroValue219
 t50 := Tryz.underlying223
 a50 := Tryz.isAgg223
 z50 := Tryz.sizeOf223
 v50 := Tryz.zeroValue223
 t53 := Tryz.underlying216
 a53 := Tryz.isAgg216
 z53 := Tryz.sizeOf216
 v53 := Tryz.zeroValue216
 t55 := Tryz.underlying227
 a55 := Tryz.isAgg227
 z55 := Tryz.sizeOf227
 v55 := Tryz.zeroValue227
 t66 := Tryz.underlying265
 a66 := Tryz.isAgg265
 z66 := Tryz.sizeOf265
 v66 := Tryz.zeroValue265
 t70 := Tryz.underlying269
 a70 := Tryz.isAgg269
 z70 := Tryz.sizeOf269
 v70 := Tryz.zeroValue269
 t76 := Tryz.underlying287
 a76 := Tryz.isAgg287
 z76 := Tryz.sizeOf287
 v76 := Tryz.zeroValue287
 t77 := Tryz.underlying288
 a77 := Tryz.isAgg288
 z77 := Tryz.sizeOf288
 v77 := Tryz.zeroValue288 }
end Go.Proofs
