import Derived.Test.YtakfpngfpknedaaGreatDoorC11
import Derived.Test.YtakfpngfpknedaaGreatDoorCz0
set_option linter.all false
set_option maxHeartbeats 8000000
set_option maxRecDepth 100000
namespace Go.Proofs.YtakfpngfpknedaaGreatDoor.configOnce
open Go.ChangeShapes Go.WideShapes Go.ChangeAt Go.RowKit Go.Lib Go.Shelf
open Go.ChangeMaps (open_string shut_string)
theorem lifted (os:Os) (started:os.Started) (H:Type) (enc:TypeId × Value→H) (F:Stop.Interp):
  ReturnsInHanded {} Tryz.checked os 3 .any ((OpenSpec.ofChange Rows.configOnceSpec).preRow enc Tryz.prog Tryz.f3 Rows.configOnceRow.domain false Rows.configOnceRow.laid) (((OpenSpec.ofChange Rows.configOnceSpec).at F).post enc Tryz.prog Tryz.f3 false true false false):=by
 obtain⟨places,hx⟩:=reads os enc
 rw[row_laid]
 refine returnsInHanded_of_row (C:=Tryz.checked) (s:=OpenSpec.ofChange Rows.configOnceSpec) own started (by kernel_rfl) Tryz.func3
  (witness_row_atRef (enc:=enc) (C:=Tryz.checked) false (laidWorld os) #[.int .i64 0] rfl (by kernel_rfl) (by kernel_rfl) (by kernel_rfl)
   (OpenSpec.preRow_of_cond 8 hx (by kernel_rfl) (fun k hk=>by cases hk) (by kernel_rfl) (laid_met os _))) ?_
 intro W base args ds gs before hval0 hW _ hcond hsz hL hsh _
 have hval:∀ (j:Nat) t v,Tryz.f3.params[j]?=some t→args[j]?=some v→Value.okWide Tryz.prog W .any base t v:=hval0
 have hW':=hW
 obtain⟨p,q,hA0,hV0,rfl,_,_⟩:=hW
 have hA:DataW.TrodAll enc Tryz.prog W 0 (fun _=>true) true Tryz.f3.params.toList args.toList ds p:=hA0
 rw[Tryz.params3] at hA hval
 obtain⟨v0,d0,p0,rfl,rfl,rfl,h0⟩:=trodAll_n hA
 obtain⟨rfl,rfl⟩:=trodVars_none hV0
 obtain⟨s0,rfl,rfl,rfl,ws0⟩:=open_int Tryz.underlying3 (hval 0 3 v0 rfl rfl) h0
 clear hA0 hV0 hval0
 refine(once_c s0 W (env_of hL hsh)).mono ?_
 rintro e W' ⟨rfl,bel⟩
 refine⟨_,rfl,_,_,_,[],[],[],hW',?_,?_,?_,bel.frame _,fun h=>by cases h⟩
 ·exact trodAll_mk1 (shut_bool Tryz.underlying4 _)
 ·exact trodAll_mk1 (shut_int Tryz.underlying3 ws0)
 ·rfl
theorem card:Rows.ConfigOnceCardSaid:=card_of lifted
end Go.Proofs.YtakfpngfpknedaaGreatDoor.configOnce
