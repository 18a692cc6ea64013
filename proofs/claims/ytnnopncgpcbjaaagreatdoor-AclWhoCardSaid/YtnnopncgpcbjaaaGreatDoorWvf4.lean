import Derived.Test.YtnnopncgpcbjaaaGreatDoorWva2
import Derived.SizedLaws
import Derived.Carry
set_option linter.all false
set_option maxHeartbeats 8000000
namespace Go.Proofs.YtnnopncgpcbjaaaGreatDoor.aclWho
open Go.ChangeShapes Go.WideShapes Go.ChangeAt Go.RowKit Go.Lib Go.Shelf
open Go.ChangeMaps (open_string shut_string)

theorem row_laid : Rows.aclWhoRow.laid = laidL := by kernel_rfl
theorem reads (os : Os) {H : Type} (enc : TypeId × Value → H) : ∃ places, DataW.whole enc Tryz.prog ((laidWorld os).forCall (fun _ _ => 0) ⟨#[], #[.string ⟨#[]⟩, .string ⟨#[]⟩, .string ⟨#[]⟩, .int .i64 0], []⟩).memory Tryz.f8.params.toList Rows.aclWhoSpec.vars false (#[.string ⟨#[]⟩, .string ⟨#[]⟩, .string ⟨#[]⟩, .int .i64 0] : Array Value).toList 8 = some ([.lit (.string []), .lit (.string []), .lit (.string []), .lit (.int .i64 0)], [], places) :=
 ⟨[], by kernel_rfl⟩
theorem said (lifted : ∀ (os : Os) (started : os.Started) (H : Type) (enc : TypeId × Value → H) (F : Stop.Interp),
  ReturnsInHanded {} Tryz.checked os 8 .any ((OpenSpec.ofChange Rows.aclWhoSpec).preRow enc Tryz.prog Tryz.f8 Rows.aclWhoRow.domain false Rows.aclWhoRow.laid) (((OpenSpec.ofChange Rows.aclWhoSpec).at F).post enc Tryz.prog Tryz.f8 false true false false)) : Rows.AclWhoSaid :=
 OpenClaim.holds_of_cond 8 Tryz.f8 rfl rfl rfl rfl rfl rfl rfl ⟨rfl, rfl, rfl, rfl, rfl⟩ rfl rfl rfl rfl rfl (by as_aux_lemma => kernel_rfl) Tryz.func8 (by unfold joinedFacts; simp only [Bool.and_eq_true]; (repeat' (refine And.intro ?_ ?_)) <;> (as_aux_lemma => kernel_rfl))
  (of_decide_eq_true (by as_aux_lemma => kernel_rfl)) (by unfold Func.isWrapper; first | (rw [if_pos (by decide +kernel)]; kernel_rfl) | (rw [if_neg (by decide +kernel)]; exact ⟨rfl, rfl⟩))
  (fun os started H enc _ F => by rw [OpenClaim.pre_eq_preRow]; exact lifted os started H enc F)
theorem plain (f : FuncId) (fn : Func) (hf : Tryz.pinned.checked.prog.funcNamed "chancery/chancerylaw16.AclWho" = some f) (hfn : Tryz.pinned.checked.prog.funcs[f]? = some fn) :
  true = Tryz.pinned.checked.prog.looks [] ∧ ∀ (j : Nat) t, fn.params[j]? = some t → Tryz.pinned.checked.prog.wantsStandIn t = false := by
 obtain rfl : f = 8 := Option.some.inj ((show Tryz.prog.funcNamed "chancery/chancerylaw16.AclWho" = some 8 by kernel_rfl).symm.trans hf) |>.symm
 obtain rfl : fn = Tryz.f8 := (Option.some.inj (Tryz.func8.symm.trans hfn)).symm
 refine ⟨by kernel_rfl, fun j t ht => ?_⟩
 rw [Tryz.params8] at ht
 have hm := Array.mem_of_getElem? ht
 have hall : ∀ t ∈ #[9, 9, 9, 3], Tryz.prog.wantsStandIn t = false := by
  intro t h
  have : t = 9 ∨ t = 3 := by simpa using h
  rcases this with rfl | rfl
  ·exact (show Tryz.prog.wantsStandIn 9 = false by kernel_rfl)
  ·exact (show Tryz.prog.wantsStandIn 3 = false by kernel_rfl)
 exact hall t hm
theorem card_of (lifted : ∀ (os : Os) (started : os.Started) (H : Type) (enc : TypeId × Value → H) (F : Stop.Interp),
  ReturnsInHanded {} Tryz.checked os 8 .any ((OpenSpec.ofChange Rows.aclWhoSpec).preRow enc Tryz.prog Tryz.f8 Rows.aclWhoRow.domain false Rows.aclWhoRow.laid) (((OpenSpec.ofChange Rows.aclWhoSpec).at F).post enc Tryz.prog Tryz.f8 false true false false)) : Rows.AclWhoCardSaid :=
 Claim7.holds_tied_plain_at .later [] _ _ _ _ (said lifted) (fun _ h => by cases h) (by as_aux_lemma => kernel_rfl) (fun _ h => by cases h) aclWho_row_tie rfl ⟨rfl, rfl⟩ (by as_aux_lemma => kernel_rfl) rfl plain (by as_aux_lemma => kernel_rfl)
end Go.Proofs.YtnnopncgpcbjaaaGreatDoor.aclWho
