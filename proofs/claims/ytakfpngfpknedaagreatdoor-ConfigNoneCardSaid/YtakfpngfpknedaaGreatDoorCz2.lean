import Derived.Test.YtakfpngfpknedaaGreatDoorC00
import Derived.SizedLaws
import Derived.Carry
set_option linter.all false
set_option maxHeartbeats 8000000
set_option maxRecDepth 100000
namespace Go.Proofs.YtakfpngfpknedaaGreatDoor.configNone
open Go.ChangeShapes Go.WideShapes Go.ChangeAt Go.RowKit Go.Lib Go.Shelf
theorem row_laid:Rows.configNoneRow.laid=laidL:=by kernel_rfl
theorem reads (os:Os) {H:Type} (enc:TypeId × Value→H):∃ places,DataW.whole enc Tryz.prog ((laidWorld os).forCall (fun _ _=>0) ⟨#[],#[],[]⟩).memory Tryz.f4.params.toList Rows.configNoneSpec.vars false (#[]:Array Value).toList 8=some ([],[],places):=
 ⟨[],by kernel_rfl⟩
theorem said (lifted:∀ (os:Os) (started:os.Started) (H:Type) (enc:TypeId × Value→H) (F:Stop.Interp),
  ReturnsInHanded {} Tryz.checked os 4 .any ((OpenSpec.ofChange Rows.configNoneSpec).preRow enc Tryz.prog Tryz.f4 Rows.configNoneRow.domain false Rows.configNoneRow.laid) (((OpenSpec.ofChange Rows.configNoneSpec).at F).post enc Tryz.prog Tryz.f4 false true false false)):Rows.ConfigNoneSaid:=
 OpenClaim.holds_of_cond 4 Tryz.f4 rfl rfl rfl rfl rfl rfl rfl ⟨rfl,rfl,rfl,rfl,rfl⟩ rfl rfl rfl rfl rfl (by as_aux_lemma=>kernel_rfl) Tryz.func4 (by unfold joinedFacts;simp only[Bool.and_eq_true];(repeat' (refine And.intro ?_ ?_))<;>(as_aux_lemma=>kernel_rfl))
  (of_decide_eq_true (by as_aux_lemma=>kernel_rfl)) (by unfold Func.isWrapper;first|(rw[if_pos (by decide+kernel)];kernel_rfl)|(rw[if_neg (by decide+kernel)];exact⟨rfl,rfl⟩))
  (fun os started H enc _ F=>by rw[OpenClaim.pre_eq_preRow];exact lifted os started H enc F)
theorem plain (f : FuncId) (fn : Func) (hf : Tryz.pinned.checked.prog.funcNamed "chancery/chancerylaw19.ConfigNone" = some f) (hfn : Tryz.pinned.checked.prog.funcs[f]? = some fn) :
  true=Tryz.pinned.checked.prog.looks []∧∀ (j:Nat) t,fn.params[j]?=some t→Tryz.pinned.checked.prog.wantsStandIn t=false:=by
 obtain rfl : f = 4 := Option.some.inj ((show Tryz.prog.funcNamed "chancery/chancerylaw19.ConfigNone" = some 4 by kernel_rfl).symm.trans hf) |>.symm
 obtain rfl:fn=Tryz.f4:=(Option.some.inj (Tryz.func4.symm.trans hfn)).symm
 refine⟨by kernel_rfl,fun j t ht=>?_⟩
 rw[Tryz.params4] at ht
 have hm:=Array.mem_of_getElem? ht
 have hall:∀ t∈#[],Tryz.prog.wantsStandIn t=false:=by
  intro t h
  exact absurd h (by simp)
 exact hall t hm
theorem card_of (lifted:∀ (os:Os) (started:os.Started) (H:Type) (enc:TypeId × Value→H) (F:Stop.Interp),
  ReturnsInHanded {} Tryz.checked os 4 .any ((OpenSpec.ofChange Rows.configNoneSpec).preRow enc Tryz.prog Tryz.f4 Rows.configNoneRow.domain false Rows.configNoneRow.laid) (((OpenSpec.ofChange Rows.configNoneSpec).at F).post enc Tryz.prog Tryz.f4 false true false false)):Rows.ConfigNoneCardSaid:=
 Claim7.holds_tied_plain_at .later [] _ _ _ _ (said lifted) (fun _ h=>by cases h) (by as_aux_lemma=>kernel_rfl) (fun _ h=>by cases h) configNone_row_tie rfl ⟨rfl,rfl⟩ (by as_aux_lemma=>kernel_rfl) rfl plain (by as_aux_lemma=>kernel_rfl)
end Go.Proofs.YtakfpngfpknedaaGreatDoor.configNone
