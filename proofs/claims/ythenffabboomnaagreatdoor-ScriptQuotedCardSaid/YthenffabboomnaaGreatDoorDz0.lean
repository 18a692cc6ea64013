import Derived.Test.YthenffabboomnaaGreatDoorD00
import Derived.SizedLaws
import Derived.Carry
set_option linter.all false
set_option maxHeartbeats 8000000
set_option maxRecDepth 100000
namespace Go.Proofs.YthenffabboomnaaGreatDoor.scriptQuoted
open Go.ChangeShapes Go.WideShapes Go.ChangeAt Go.RowKit Go.Lib Go.Shelf
theorem row_laid : Rows.scriptQuotedRow.laid = laidL := by kernel_rfl
theorem reads (os : Os) {H : Type} (enc : TypeId × Value → H) : ∃ places, DataW.whole enc Tryz.prog ((laidWorld os).forCall (fun _ _ => 0) ⟨#[], #[.string ⟨#[]⟩, .int .i64 0], []⟩).memory Tryz.f4.params.toList Rows.scriptQuotedSpec.vars false (#[.string ⟨#[]⟩, .int .i64 0] : Array Value).toList 8 = some ([.lit (.string []), .lit (.int .i64 0)], [], places) :=
 ⟨[], by kernel_rfl⟩
theorem trodAll_n {H : Type} {enc : TypeId × Value → H} {P : Program} {w : World} {base : Nat} {spare : Nat → Bool} {held : Bool} {t0 t1 : TypeId} {args : Array Value} {ds : List (DataW H)} {ps : List MemPlace} (h : DataW.TrodAll enc P w base spare held [t0, t1] args.toList ds ps) :
  ∃ v0 v1 d0 d1 p0 p1, args = #[v0, v1] ∧ ds = [d0, d1] ∧ ps = p0 ++ p1 ∧ DataW.Trod enc P w base spare held t0 v0 d0 p0 ∧ DataW.Trod enc P w base spare held t1 v1 d1 p1 := by
 obtain ⟨v0, vs0, d0, ds0, p0, q0, hargs, rfl, rfl, h0, hrest0⟩ := trodAll_cons h
 obtain ⟨v1, vs1, d1, ds1, p1, q1, rfl, rfl, rfl, h1, hrest1⟩ := trodAll_cons hrest0
 obtain ⟨rfl, rfl, rfl⟩ := trodAll_nil hrest1
 exact ⟨v0, v1, d0, d1, p0, p1, by cases args; simp_all, rfl, by simp, h0, h1⟩
theorem said (lifted : ∀ (os : Os) (started : os.Started) (H : Type) (enc : TypeId × Value → H) (F : Stop.Interp),
  ReturnsInHanded {} Tryz.checked os 4 .any ((OpenSpec.ofChange Rows.scriptQuotedSpec).preRow enc Tryz.prog Tryz.f4 Rows.scriptQuotedRow.domain false Rows.scriptQuotedRow.laid) (((OpenSpec.ofChange Rows.scriptQuotedSpec).at F).post enc Tryz.prog Tryz.f4 false true false false)) : Rows.ScriptQuotedSaid :=
 OpenClaim.holds_of_cond 4 Tryz.f4 rfl rfl rfl rfl rfl rfl rfl ⟨rfl, rfl, rfl, rfl, rfl⟩ rfl rfl rfl rfl rfl (by as_aux_lemma => kernel_rfl) Tryz.func4 (by unfold joinedFacts; simp only [Bool.and_eq_true]; (repeat' (refine And.intro ?_ ?_)) <;> (as_aux_lemma => kernel_rfl))
  (of_decide_eq_true (by as_aux_lemma => kernel_rfl)) (by unfold Func.isWrapper; first | (rw [if_pos (by decide +kernel)]; kernel_rfl) | (rw [if_neg (by decide +kernel)]; exact ⟨rfl, rfl⟩))
  (fun os started H enc _ F => by rw [OpenClaim.pre_eq_preRow]; exact lifted os started H enc F)
theorem plain (f : FuncId) (fn : Func) (hf : Tryz.pinned.checked.prog.funcNamed "chancery/chancerylaw27.ScriptQuoted" = some f) (hfn : Tryz.pinned.checked.prog.funcs[f]? = some fn) :
  true = Tryz.pinned.checked.prog.looks [] ∧ ∀ (j : Nat) t, fn.params[j]? = some t → Tryz.pinned.checked.prog.wantsStandIn t = false := by
 obtain rfl : f = 4 := Option.some.inj ((show Tryz.prog.funcNamed "chancery/chancerylaw27.ScriptQuoted" = some 4 by kernel_rfl).symm.trans hf) |>.symm
 obtain rfl : fn = Tryz.f4 := (Option.some.inj (Tryz.func4.symm.trans hfn)).symm
 refine ⟨by kernel_rfl, fun j t ht => ?_⟩
 rw [Tryz.params4] at ht
 have hm := Array.mem_of_getElem? ht
 have hall : ∀ t ∈ #[9, 3], Tryz.prog.wantsStandIn t = false := by
  intro t h
  simp only [List.mem_toArray, List.mem_cons, List.not_mem_nil, or_false] at h
  rcases h with rfl | rfl
  ·exact (show Tryz.prog.wantsStandIn 9 = false by kernel_rfl)
  ·exact (show Tryz.prog.wantsStandIn 3 = false by kernel_rfl)
 exact hall t hm
theorem card_of (lifted : ∀ (os : Os) (started : os.Started) (H : Type) (enc : TypeId × Value → H) (F : Stop.Interp),
  ReturnsInHanded {} Tryz.checked os 4 .any ((OpenSpec.ofChange Rows.scriptQuotedSpec).preRow enc Tryz.prog Tryz.f4 Rows.scriptQuotedRow.domain false Rows.scriptQuotedRow.laid) (((OpenSpec.ofChange Rows.scriptQuotedSpec).at F).post enc Tryz.prog Tryz.f4 false true false false)) : Rows.ScriptQuotedCardSaid :=
 Claim7.holds_tied_plain_at .later [] _ _ _ _ (said lifted) (fun _ h => by cases h) (by as_aux_lemma => kernel_rfl) (fun _ h => by cases h) scriptQuoted_row_tie rfl ⟨rfl, rfl⟩ (by as_aux_lemma => kernel_rfl) rfl plain (by as_aux_lemma => kernel_rfl)
end Go.Proofs.YthenffabboomnaaGreatDoor.scriptQuoted
