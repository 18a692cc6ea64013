import Derived.Test.YtakfpngfpknedaaGreatDoorEz0
import Derived.Test.YtakfpngfpknedaaGreatDoorE1c
set_option linter.all false
set_option maxHeartbeats 8000000
set_option maxRecDepth 100000
namespace Go.Proofs.YtakfpngfpknedaaGreatDoor.configPrints
open Go.ChangeShapes Go.WideShapes Go.ChangeAt Go.RowKit Go.Lib Go.Shelf
open Go.ChangeMaps (open_string shut_string)
theorem lifted (os:Os) (started:os.Started) (H:Type) (enc:TypeId × Value→H) (F:Stop.Interp):
  ReturnsInHanded {} Tryz.checked os 5 .any ((Rows.OpenSpec.upto Rows.configPrintsSpec).preRow enc Tryz.prog Tryz.f5 Rows.configPrintsUptoRow.domain false Rows.configPrintsUptoRow.laid) (((Rows.OpenSpec.upto Rows.configPrintsSpec).at F).post enc Tryz.prog Tryz.f5 false true false false):=by
 obtain⟨places,hx⟩:=reads os enc
 rw[row_laid]
 refine returnsInHanded_of_row (C:=Tryz.checked) (s:=Rows.OpenSpec.upto Rows.configPrintsSpec) own started (by kernel_rfl) Tryz.func5
  (witness_row_atRef (enc:=enc) (C:=Tryz.checked) false (laidWorld os) #[.agg #[.string ⟨#[]⟩,.string ⟨#[]⟩,.string ⟨#[]⟩,.int .i64 0,.slice none 0 0,.slice none 0 0,.slice none 0 0,.slice none 0 0,.bool false,.bool false,.slice none 0 0,.slice none 0 0]] rfl (by kernel_rfl) (by kernel_rfl) (by kernel_rfl)
   (OpenSpec.preRow_of_cond 8 hx (by kernel_rfl) (fun k hk=>by cases hk;kernel_rfl) (by kernel_rfl) (zgb_ os _))) ?_
 intro W base args ds gs before hval0 hW _ hcond hsz hL hsh _
 have hk:Rows.uptoSmall H (ds++gs)=true:=hcond _ rfl
 have hval:∀ (j:Nat) t v,Tryz.f5.params[j]?=some t→args[j]?=some v→Value.okWide Tryz.prog W .any base t v:=hval0
 have hW':=hW
 obtain⟨p,q,hA0,hV0,rfl,_,_⟩:=hW
 have hA:DataW.TrodAll enc Tryz.prog W 0 (fun _=>true) true Tryz.f5.params.toList args.toList ds p:=hA0
 rw[Tryz.params5] at hA hval
 obtain⟨v0,d0,p0,rfl,rfl,hp0,h0⟩:=trodAll_n hA
 obtain rfl:p0=p:=hp0.symm
 obtain⟨rfl,rfl⟩:=trodVars_none hV0
 have hlt0:∀ x∈p0,x.block<W.heap.size:=fun x hx=>hW'.lt x (by simp [hx])
 obtain⟨c0,hc0,hz0,hb0⟩:=zgc_ (hval 0 25 v0 rfl rfl) h0
 have hbk:z6b_ c0≤1048576:=by
  have hb:Rows.uptoBulkAll ([d0]++([]:List (DataW H)))≤1048576:=of_decide_eq_true hk
  simp only[List.append_nil,Rows.uptoBulkAll,Rows.uptoBulk] at hb
  omega
 clear hA0 hV0 hval0
 refine(zgg_ c0 _ W (zk9_ hL hsh) hc0 hz0 hbk).mono ?_
 rintro e W' ⟨rfl,bel⟩
 refine⟨_,rfl,_,_,_,[],p0,[],hW',?_,?_,?_,bel.frame _,fun h=>by cases h⟩
 ·exact trodAll_mk1 (shut_bool Tryz.underlying4 _)
 ·exact trodAll_mk1 (Below.trod laidOut (by as_aux_lemma=>kernel_rfl) (of_decide_eq_true (by as_aux_lemma=>kernel_rfl)) h0 bel hlt0)
 ·rfl
theorem card:Rows.ConfigPrintsUptoCardSaid:=card_of lifted
end Go.Proofs.YtakfpngfpknedaaGreatDoor.configPrints
