import Derived.Test.YtakfpngfpknedaaGreatDoorE00
import Derived.SizedLaws
import Derived.Carry
set_option linter.all false
set_option maxHeartbeats 8000000
set_option maxRecDepth 100000
namespace Go.Proofs.YtakfpngfpknedaaGreatDoor.configPrints
open Go.ChangeShapes Go.WideShapes Go.ChangeAt Go.RowKit Go.Lib Go.Shelf
theorem row_laid:Rows.configPrintsUptoRow.laid=z8g_:=by kernel_rfl
theorem reads (os:Os) {H:Type} (enc:TypeId × Value→H):∃ places,DataW.whole enc Tryz.prog ((laidWorld os).forCall (fun _ _=>0) ⟨#[],#[.agg #[.string ⟨#[]⟩,.string ⟨#[]⟩,.string ⟨#[]⟩,.int .i64 0,.slice none 0 0,.slice none 0 0,.slice none 0 0,.slice none 0 0,.bool false,.bool false,.slice none 0 0,.slice none 0 0]],[]⟩).memory Tryz.f5.params.toList Rows.configPrintsSpec.vars false (#[.agg #[.string ⟨#[]⟩,.string ⟨#[]⟩,.string ⟨#[]⟩,.int .i64 0,.slice none 0 0,.slice none 0 0,.slice none 0 0,.slice none 0 0,.bool false,.bool false,.slice none 0 0,.slice none 0 0]]:Array Value).toList 8=some ([.agg [.lit (.string []),.lit (.string []),.lit (.string []),.lit (.int .i64 0),.nil,.nil,.nil,.nil,.lit (.bool false),.lit (.bool false),.nil,.nil]],[],places):=
 ⟨[],by kernel_rfl⟩
theorem laidOut:laidOutB Tryz.prog=true:=by kernel_rfl
theorem trodAll_n {H:Type} {enc:TypeId × Value→H} {P:Program} {w:World} {base:Nat} {spare:Nat→Bool} {held:Bool} {t0:TypeId} {args:Array Value} {ds:List (DataW H)} {ps:List MemPlace} (h:DataW.TrodAll enc P w base spare held [t0] args.toList ds ps):
  ∃ v0 d0 p0,args=#[v0]∧ds=[d0]∧ps=p0∧DataW.Trod enc P w base spare held t0 v0 d0 p0:=by
 obtain⟨v0,vs0,d0,ds0,p0,q0,hargs,rfl,rfl,h0,hrest0⟩:=trodAll_cons h
 obtain⟨rfl,rfl,rfl⟩:=trodAll_nil hrest0
 exact⟨v0,d0,p0,by cases args;simp_all,rfl,by simp,h0⟩
theorem said (lifted:∀ (os:Os) (started:os.Started) (H:Type) (enc:TypeId × Value→H) (F:Stop.Interp),
  ReturnsInHanded {} Tryz.checked os 5 .any ((Rows.OpenSpec.upto Rows.configPrintsSpec).preRow enc Tryz.prog Tryz.f5 Rows.configPrintsUptoRow.domain false Rows.configPrintsUptoRow.laid) (((Rows.OpenSpec.upto Rows.configPrintsSpec).at F).post enc Tryz.prog Tryz.f5 false true false false)):Rows.ConfigPrintsUptoSaid:=
 OpenClaim.holds_of_cond 5 Tryz.f5 rfl rfl rfl rfl rfl rfl rfl ⟨rfl,rfl,rfl,rfl,rfl⟩ rfl rfl rfl rfl rfl (by as_aux_lemma=>kernel_rfl) Tryz.func5 (by unfold joinedFacts;simp only[Bool.and_eq_true];(repeat' (refine And.intro ?_ ?_))<;>(as_aux_lemma=>kernel_rfl))
  (of_decide_eq_true (by as_aux_lemma=>kernel_rfl)) (by unfold Func.isWrapper;first|(rw[if_pos (by decide+kernel)];kernel_rfl)|(rw[if_neg (by decide+kernel)];exact⟨rfl,rfl⟩))
  (fun os started H enc _ F=>by rw[OpenClaim.pre_eq_preRow];exact lifted os started H enc F)
theorem plain (f : FuncId) (fn : Func) (hf : Tryz.pinned.checked.prog.funcNamed "chancery/chancerylaw19.ConfigPrints" = some f) (hfn : Tryz.pinned.checked.prog.funcs[f]? = some fn) :
  true=Tryz.pinned.checked.prog.looks []∧∀ (j:Nat) t,fn.params[j]?=some t→Tryz.pinned.checked.prog.wantsStandIn t=false:=by
 obtain rfl : f = 5 := Option.some.inj ((show Tryz.prog.funcNamed "chancery/chancerylaw19.ConfigPrints" = some 5 by kernel_rfl).symm.trans hf) |>.symm
 obtain rfl:fn=Tryz.f5:=(Option.some.inj (Tryz.func5.symm.trans hfn)).symm
 refine⟨by kernel_rfl,fun j t ht=>?_⟩
 rw[Tryz.params5] at ht
 have hm:=Array.mem_of_getElem? ht
 have hall:∀ t∈#[25],Tryz.prog.wantsStandIn t=false:=by
  intro t h
  simp only[List.mem_toArray,List.mem_cons,List.not_mem_nil,or_false] at h
  rcases h with rfl
  ·exact(show Tryz.prog.wantsStandIn 25=false by kernel_rfl)
 exact hall t hm
theorem card_of (lifted:∀ (os:Os) (started:os.Started) (H:Type) (enc:TypeId × Value→H) (F:Stop.Interp),
  ReturnsInHanded {} Tryz.checked os 5 .any ((Rows.OpenSpec.upto Rows.configPrintsSpec).preRow enc Tryz.prog Tryz.f5 Rows.configPrintsUptoRow.domain false Rows.configPrintsUptoRow.laid) (((Rows.OpenSpec.upto Rows.configPrintsSpec).at F).post enc Tryz.prog Tryz.f5 false true false false)):Rows.ConfigPrintsUptoCardSaid:=
 Claim7.holds_tied_plain_at .later [] _ _ _ _ (said lifted) (fun _ h=>by cases h) (by as_aux_lemma=>kernel_rfl) (fun _ h=>by cases h) configPrintsUpto_row_tie rfl ⟨rfl,rfl⟩ (by as_aux_lemma=>kernel_rfl) rfl plain (by as_aux_lemma=>kernel_rfl)
end Go.Proofs.YtakfpngfpknedaaGreatDoor.configPrints
