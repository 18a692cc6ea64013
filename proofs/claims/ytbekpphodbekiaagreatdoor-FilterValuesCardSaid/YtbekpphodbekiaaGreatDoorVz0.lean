import Derived.Test.YtbekpphodbekiaaGreatDoorV00
import Derived.SizedLaws
import Derived.Carry
set_option linter.all false
set_option maxHeartbeats 8000000
set_option maxRecDepth 100000
namespace Go.Proofs.YtbekpphodbekiaaGreatDoor.filterValues
open Go.ChangeShapes Go.WideShapes Go.ChangeAt Go.RowKit Go.Lib Go.Shelf
theorem row_laid:Rows.filterValuesRow.laid=znb_:=by kernel_rfl
theorem reads (os:Os) {H:Type} (enc:TypeId × Value→H):∃ places,DataW.whole enc Tryz.prog ((laidWorld os).forCall (fun _ _=>0) ⟨#[],#[.string ⟨#[]⟩,.slice none 0 0,.int .i64 0],[]⟩).memory Tryz.f4.params.toList Rows.filterValuesSpec.vars false (#[.string ⟨#[]⟩,.slice none 0 0,.int .i64 0]:Array Value).toList 8=some ([.lit (.string []),.nil,.lit (.int .i64 0)],[],places):=
 ⟨[],by kernel_rfl⟩
theorem laidOut:laidOutB Tryz.prog=true:=by kernel_rfl
theorem trodAll_n {H:Type} {enc:TypeId × Value→H} {P:Program} {w:World} {base:Nat} {spare:Nat→Bool} {held:Bool} {t0 t1 t2:TypeId} {args:Array Value} {ds:List (DataW H)} {ps:List MemPlace} (h:DataW.TrodAll enc P w base spare held [t0,t1,t2] args.toList ds ps):
  ∃ v0 v1 v2 d0 d1 d2 p0 p1 p2,args=#[v0,v1,v2]∧ds=[d0,d1,d2]∧ps=p0++p1++p2∧DataW.Trod enc P w base spare held t0 v0 d0 p0∧DataW.Trod enc P w base spare held t1 v1 d1 p1∧DataW.Trod enc P w base spare held t2 v2 d2 p2:=by
 obtain⟨v0,vs0,d0,ds0,p0,q0,hargs,rfl,rfl,h0,hrest0⟩:=trodAll_cons h
 obtain⟨v1,vs1,d1,ds1,p1,q1,rfl,rfl,rfl,h1,hrest1⟩:=trodAll_cons hrest0
 obtain⟨v2,vs2,d2,ds2,p2,q2,rfl,rfl,rfl,h2,hrest2⟩:=trodAll_cons hrest1
 obtain⟨rfl,rfl,rfl⟩:=trodAll_nil hrest2
 exact⟨v0,v1,v2,d0,d1,d2,p0,p1,p2,by cases args;simp_all,rfl,by simp,h0,h1,h2⟩
theorem said (lifted:∀ (os:Os) (started:os.Started) (H:Type) (enc:TypeId × Value→H) (F:Stop.Interp),
  ReturnsInHanded {} Tryz.checked os 4 .any ((OpenSpec.ofChange Rows.filterValuesSpec).preRow enc Tryz.prog Tryz.f4 Rows.filterValuesRow.domain false Rows.filterValuesRow.laid) (((OpenSpec.ofChange Rows.filterValuesSpec).at F).post enc Tryz.prog Tryz.f4 false true false false)):Rows.FilterValuesSaid:=
 OpenClaim.holds_of_cond 4 Tryz.f4 rfl rfl rfl rfl rfl rfl rfl ⟨rfl,rfl,rfl,rfl,rfl⟩ rfl rfl rfl rfl rfl (by as_aux_lemma=>kernel_rfl) Tryz.func4 (by unfold joinedFacts;simp only[Bool.and_eq_true];(repeat' (refine And.intro ?_ ?_))<;>(as_aux_lemma=>kernel_rfl))
  (of_decide_eq_true (by as_aux_lemma=>kernel_rfl)) (by unfold Func.isWrapper;first|(rw[if_pos (by decide+kernel)];kernel_rfl)|(rw[if_neg (by decide+kernel)];exact⟨rfl,rfl⟩))
  (fun os started H enc _ F=>by rw[OpenClaim.pre_eq_preRow];exact lifted os started H enc F)
theorem plain (f : FuncId) (fn : Func) (hf : Tryz.pinned.checked.prog.funcNamed "chancery/chancerylaw8.FilterValues" = some f) (hfn : Tryz.pinned.checked.prog.funcs[f]? = some fn) :
  true=Tryz.pinned.checked.prog.looks []∧∀ (j:Nat) t,fn.params[j]?=some t→Tryz.pinned.checked.prog.wantsStandIn t=false:=by
 obtain rfl : f = 4 := Option.some.inj ((show Tryz.prog.funcNamed "chancery/chancerylaw8.FilterValues" = some 4 by kernel_rfl).symm.trans hf) |>.symm
 obtain rfl:fn=Tryz.f4:=(Option.some.inj (Tryz.func4.symm.trans hfn)).symm
 refine⟨by kernel_rfl,fun j t ht=>?_⟩
 rw[Tryz.params4] at ht
 have hm:=Array.mem_of_getElem? ht
 have hall:∀ t∈#[9,22,3],Tryz.prog.wantsStandIn t=false:=by
  intro t h
  simp only[List.mem_toArray,List.mem_cons,List.not_mem_nil,or_false] at h
  rcases h with rfl|rfl|rfl
  ·exact(show Tryz.prog.wantsStandIn 9=false by kernel_rfl)
  ·exact(show Tryz.prog.wantsStandIn 22=false by kernel_rfl)
  ·exact(show Tryz.prog.wantsStandIn 3=false by kernel_rfl)
 exact hall t hm
theorem card_of (lifted:∀ (os:Os) (started:os.Started) (H:Type) (enc:TypeId × Value→H) (F:Stop.Interp),
  ReturnsInHanded {} Tryz.checked os 4 .any ((OpenSpec.ofChange Rows.filterValuesSpec).preRow enc Tryz.prog Tryz.f4 Rows.filterValuesRow.domain false Rows.filterValuesRow.laid) (((OpenSpec.ofChange Rows.filterValuesSpec).at F).post enc Tryz.prog Tryz.f4 false true false false)):Rows.FilterValuesCardSaid:=
 Claim7.holds_tied_plain_at .later [] _ _ _ _ (said lifted) (fun _ h=>by cases h) (by as_aux_lemma=>kernel_rfl) (fun _ h=>by cases h) filterValues_row_tie rfl ⟨rfl,rfl⟩ (by as_aux_lemma=>kernel_rfl) rfl plain (by as_aux_lemma=>kernel_rfl)
end Go.Proofs.YtbekpphodbekiaaGreatDoor.filterValues
