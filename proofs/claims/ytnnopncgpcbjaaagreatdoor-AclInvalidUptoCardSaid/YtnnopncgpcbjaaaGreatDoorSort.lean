/-
 DERIVED: THE SHELF's CONTRACTS AT THIS DUMP, IN PLAIN WORDS (tools/lay-plain.mjs out of 'TryzSort.lean', which tools/lay-shelf.mjs wrote): THE SAME DECLARATIONS UNDER THE SAME NAMES: 'import', 'namespace', 'open', 'def', 'theorem' AND NOTHING ELSE: no command of the shelf's: FOR A HAND-IN. Each laying: the table of numbers ('.._ren') and one theorem, a field a fact of the dump's own or the kernel's comparison; each contract: ONE APPLICATION.
-/
import Derived.Shelf.SlSortCmp.SmallK
import Derived.Ground.SlsfProg
import Derived.Test.YtnnopncgpcbjaaaGreatDoorProg
namespace Go.Proofs
open Go.Shelf
def Tryz.sortAva_ren : Go.Shelf.Ren := ⟨fun | 14 => 320 | 20 => 377 | 21 => 378 | 22 => 379 | 23 => 380 | 24 => 381 | 25 => 382 | 26 => 383 | 27 => 384 | 46 => 417 | 47 => 418 | 48 => 419 | 49 => 420 | 50 => 421 | 15 => 321 | 57 => 430 | 28 => 385 | 29 => 386 | n => n, fun | 24 => 173 | 22 => 170 | 3 => 3 | 25 => 317 | 4 => 4 | 0 => 0 | 46 => 407 | 45 => 406 | 50 => 411 | 66 => 426 | 39 => 367 | 55 => 416 | 70 => 430 | 76 => 440 | 77 => 441 | 53 => 414 | 5 => 5 | 9 => 9 | n => n, fun | n => n⟩
theorem Tryz.sortAva : Go.Proofs.SlLaysF0.n14 Tryz.prog Tryz.sortAva_ren := {
 mixed := by kernel_rfl
 f14 := ⟨Tryz.f320.name, by decide, Tryz.func320.trans (congrArg some (by kernel_rfl))⟩
 f15 := Tryz.func321.trans (congrArg some (by kernel_rfl))
 f20 := ⟨Tryz.f377.name, by decide, Tryz.func377.trans (congrArg some (by kernel_rfl))⟩
 f21 := ⟨Tryz.f378.name, by decide, Tryz.func378.trans (congrArg some (by kernel_rfl))⟩
 f22 := ⟨Tryz.f379.name, by decide, Tryz.func379.trans (congrArg some (by kernel_rfl))⟩
 f23 := ⟨Tryz.f380.name, by decide, Tryz.func380.trans (congrArg some (by kernel_rfl))⟩
 f24 := ⟨Tryz.f381.name, by decide, Tryz.func381.trans (congrArg some (by kernel_rfl))⟩
 f25 := ⟨Tryz.f382.name, by decide, Tryz.func382.trans (congrArg some (by kernel_rfl))⟩
 f26 := ⟨Tryz.f383.name, by decide, Tryz.func383.trans (congrArg some (by kernel_rfl))⟩
 f27 := ⟨Tryz.f384.name, by decide, Tryz.func384.trans (congrArg some (by kernel_rfl))⟩
 f28 := Tryz.func385.trans (congrArg some (by kernel_rfl))
 f29 := Tryz.func386.trans (congrArg some (by kernel_rfl))
 f46 := ⟨Tryz.f417.name, by decide, Tryz.func417.trans (congrArg some (by kernel_rfl))⟩
 f47 := Tryz.func418.trans (congrArg some (by kernel_rfl))
 f48 := Tryz.func419.trans (congrArg some (by kernel_rfl))
 f49 := ⟨Tryz.f420.name, by decide, Tryz.func420.trans (congrArg some (by kernel_rfl))⟩
 f50 := ⟨Tryz.f421.name, by decide, Tryz.func421.trans (congrArg some (by kernel_rfl))⟩
 f57 := ⟨Tryz.f430.name, by decide, Tryz.func430.trans (congrArg some (by kernel_rfl))⟩
 t0 := Tryz.underlying0
 a0 := Tryz.isAgg0
 z0 := Tryz.sizeOf0
 v0 := Tryz.zeroValue0
 t3 := Tryz.underlying3
 a3 := Tryz.isAgg3
 z3 := Tryz.sizeOf3
 v3 := Tryz.zeroValue3
 t4 := Tryz.underlying4
 a4 := Tryz.isAgg4
 z4 := Tryz.sizeOf4
 v4 := Tryz.zeroValue4
 t5 := Tryz.underlying5
 a5 := Tryz.isAgg5
 z5 := Tryz.sizeOf5
 v5 := Tryz.zeroValue5
 t9 := Tryz.underlying9
 a9 := Tryz.isAgg9
 z9 := Tryz.sizeOf9
 v9 := Tryz.zeroValue9
 t22 := Tryz.underlying170
 a22 := Tryz.isAgg170
 z22 := Tryz.sizeOf170
 v22 := Tryz.zeroValue170
 t25 := Tryz.underlying317
 a25 := Tryz.isAgg317
 z25 := Tryz.sizeOf317
 v25 := Tryz.zeroValue317
 t39 := Tryz.underlying367
 a39 := Tryz.isAgg367
 z39 := Tryz.sizeOf367
 v39 := Tryz.zeroValue367
 t45 := Tryz.underlying406
 a45 := Tryz.isAgg406
 z45 := Tryz.sizeOf406
 v45 := Tryz.zeroValue406
 t46 := Tryz.underlying407
 a46 := Tryz.isAgg407
 z46 := Tryz.sizeOf407
 v46 := Tryz.zeroValue407
 t50 := Tryz.underlying411
 a50 := Tryz.isAgg411
 z50 := Tryz.sizeOf411
 v50 := Tryz.zeroValue411
 t53 := Tryz.underlying414
 a53 := Tryz.isAgg414
 z53 := Tryz.sizeOf414
 v53 := Tryz.zeroValue414
 t55 := Tryz.underlying416
 a55 := Tryz.isAgg416
 z55 := Tryz.sizeOf416
 v55 := Tryz.zeroValue416
 t66 := Tryz.underlying426
 a66 := Tryz.isAgg426
 z66 := Tryz.sizeOf426
 v66 := Tryz.zeroValue426
 t70 := Tryz.underlying430
 a70 := Tryz.isAgg430
 z70 := Tryz.sizeOf430
 v70 := Tryz.zeroValue430
 t76 := Tryz.underlying440
 a76 := Tryz.isAgg440
 z76 := Tryz.sizeOf440
 v76 := Tryz.zeroValue440
 t77 := Tryz.underlying441
 a77 := Tryz.isAgg441
 z77 := Tryz.sizeOf441
 v77 := Tryz.zeroValue441 }
end Go.Proofs
