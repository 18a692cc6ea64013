/-
 DERIVED: THE SHELF's CONTRACTS AT THIS DUMP, IN PLAIN WORDS (tools/lay-plain.mjs out of 'TryzSort.lean', which tools/lay-shelf.mjs wrote): THE SAME DECLARATIONS UNDER THE SAME NAMES: 'import', 'namespace', 'open', 'def', 'theorem' AND NOTHING ELSE: no command of the shelf's: FOR A HAND-IN. Each laying: the table of numbers ('.._ren') and one theorem, a field a fact of the dump's own or the kernel's comparison; each contract: ONE APPLICATION.
-/
import Derived.Shelf.SlSortCmp.SmallK
import Derived.Ground.SlsfProg
import Derived.Test.YtbjmpmgiigombaaGreatDoorProg
namespace Go.Proofs
open Go.Shelf
def Tryz.sortAva_ren : Go.Shelf.Ren := ⟨fun | 14 => 325 | 20 => 348 | 21 => 349 | 22 => 350 | 23 => 351 | 24 => 352 | 25 => 353 | 26 => 354 | 27 => 355 | 46 => 367 | 47 => 368 | 48 => 369 | 49 => 370 | 50 => 371 | 15 => 326 | 57 => 379 | 28 => 356 | 29 => 357 | n => n, fun | 24 => 215 | 22 => 167 | 3 => 3 | 25 => 325 | 4 => 4 | 0 => 0 | 46 => 365 | 45 => 364 | 50 => 369 | 66 => 378 | 39 => 339 | 55 => 373 | 70 => 382 | 76 => 386 | 77 => 387 | 53 => 353 | 5 => 5 | 9 => 9 | n => n, fun | n => n⟩
theorem Tryz.sortAva : Go.Proofs.SlLaysF0.n14 Tryz.prog Tryz.sortAva_ren := {
 mixed := by kernel_rfl
 f14 := ⟨Tryz.f325.name, by decide, Tryz.func325.trans (congrArg some (by kernel_rfl))⟩
 f15 := Tryz.func326.trans (congrArg some (by kernel_rfl))
 f20 := ⟨Tryz.f348.name, by decide, Tryz.func348.trans (congrArg some (by kernel_rfl))⟩
 f21 := ⟨Tryz.f349.name, by decide, Tryz.func349.trans (congrArg some (by kernel_rfl))⟩
 f22 := ⟨Tryz.f350.name, by decide, Tryz.func350.trans (congrArg some (by kernel_rfl))⟩
 f23 := ⟨Tryz.f351.name, by decide, Tryz.func351.trans (congrArg some (by kernel_rfl))⟩
 f24 := ⟨Tryz.f352.name, by decide, Tryz.func352.trans (congrArg some (by kernel_rfl))⟩
 f25 := ⟨Tryz.f353.name, by decide, Tryz.func353.trans (congrArg some (by kernel_rfl))⟩
 f26 := ⟨Tryz.f354.name, by decide, Tryz.func354.trans (congrArg some (by kernel_rfl))⟩
 f27 := ⟨Tryz.f355.name, by decide, Tryz.func355.trans (congrArg some (by kernel_rfl))⟩
 f28 := Tryz.func356.trans (congrArg some (by kernel_rfl))
 f29 := Tryz.func357.trans (congrArg some (by kernel_rfl))
 f46 := ⟨Tryz.f367.name, by decide, Tryz.func367.trans (congrArg some (by kernel_rfl))⟩
 f47 := Tryz.func368.trans (congrArg some (by kernel_rfl))
 f48 := Tryz.func369.trans (congrArg some (by kernel_rfl))
 f49 := ⟨Tryz.f370.name, by decide, Tryz.func370.trans (congrArg some (by kernel_rfl))⟩
 f50 := ⟨Tryz.f371.name, by decide, Tryz.func371.trans (congrArg some (by kernel_rfl))⟩
 f57 := ⟨Tryz.f379.name, by decide, Tryz.func379.trans (congrArg some (by kernel_rfl))⟩
 t0 := Tryz.underlying0
 a0 := Tryz.isAgg0
 z0 := Tryz.sizeOf0
 v0 := Tryz.zeroValue0
 t3 := Tryz.underlying3
 a3 := Tryz.isAgg3
 z3 := Tryz.sizeOf3
 v3 := Tryz.zeroValue3
 t4 := Tryz.underlying4
 a4 := Tryz.isAgg4
 z4 := Tryz.sizeOf4
 v4 := Tryz.zeroValue4
 t5 := Tryz.underlying5
 a5 := Tryz.isAgg5
 z5 := Tryz.sizeOf5
 v5 := Tryz.zeroValue5
 t9 := Tryz.underlying9
 a9 := Tryz.isAgg9
 z9 := Tryz.sizeOf9
 v9 := Tryz.zeroValue9
 t22 := Tryz.underlying167
 a22 := Tryz.isAgg167
 z22 := Tryz.sizeOf167
 v22 := Tryz.zeroValue167
 t25 := Tryz.underlying325
 a25 := Tryz.isAgg325
 z25 := Tryz.sizeOf325
 v25 := Tryz.zeroValue325
 t39 := Tryz.underlying339
 a39 := Tryz.isAgg339
 z39 := Tryz.sizeOf339
 v39 := Tryz.zeroValue339
 t45 := Tryz.underlying364
 a45 := Tryz.isAgg364
 z45 := Tryz.sizeOf364
 v45 := Tryz.zeroValue364
 t46 := Tryz.underlying365
 a46 := Tryz.isAgg365
 z46 := Tryz.sizeOf365
 v46 := Tryz.zeroValue365
 t50 := Tryz.underlying369
 a50 := Tryz.isAgg369
 z50 := Tryz.sizeOf369
 v50 := Tryz.zeroValue369
 t53 := Tryz.underlying353
 a53 := Tryz.isAgg353
 z53 := Tryz.sizeOf353
 v53 := Tryz.zeroValue353
 t55 := Tryz.underlying373
 a55 := Tryz.isAgg373
 z55 := Tryz.sizeOf373
 v55 := Tryz.zeroValue373
 t66 := Tryz.underlying378
 a66 := Tryz.isAgg378
 z66 := Tryz.sizeOf378
 v66 := Tryz.zeroValue378
 t70 := Tryz.underlying382
 a70 := Tryz.isAgg382
 z70 := Tryz.sizeOf382
 v70 := Tryz.zeroValue382
 t76 := Tryz.underlying386
 a76 := Tryz.isAgg386
 z76 := Tryz.sizeOf386
 v76 := Tryz.zeroValue386
 t77 := Tryz.underlying387
 a77 := Tryz.isAgg387
 z77 := Tryz.sizeOf387
 v77 := Tryz.zeroValue387 }
end Go.Proofs
