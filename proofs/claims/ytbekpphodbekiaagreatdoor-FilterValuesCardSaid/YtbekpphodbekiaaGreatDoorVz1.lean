import Derived.Test.YtbekpphodbekiaaGreatDoorVz0
import Derived.Test.YtbekpphodbekiaaGreatDoorV1c
set_option linter.all false
set_option maxHeartbeats 8000000
set_option maxRecDepth 100000
namespace Go.Proofs.YtbekpphodbekiaaGreatDoor.filterValues
open Go.ChangeShapes Go.WideShapes Go.ChangeAt Go.RowKit Go.Lib Go.Shelf
open Go.ChangeMaps (open_string shut_string)
theorem lifted (os:Os) (started:os.Started) (H:Type) (enc:TypeId × Value→H) (F:Stop.Interp):
  ReturnsInHanded {} Tryz.checked os 4 .any ((OpenSpec.ofChange Rows.filterValuesSpec).preRow enc Tryz.prog Tryz.f4 Rows.filterValuesRow.domain false Rows.filterValuesRow.laid) (((OpenSpec.ofChange Rows.filterValuesSpec).at F).post enc Tryz.prog Tryz.f4 false true false false):=by
 obtain⟨places,hx⟩:=reads os enc
 rw[row_laid]
 refine returnsInHanded_of_row (C:=Tryz.checked) (s:=OpenSpec.ofChange Rows.filterValuesSpec) own started (by kernel_rfl) Tryz.func4
  (witness_row_atRef (enc:=enc) (C:=Tryz.checked) false (laidWorld os) #[.string ⟨#[]⟩,.slice none 0 0,.int .i64 0] rfl (by kernel_rfl) (by kernel_rfl) (by kernel_rfl)
   (OpenSpec.preRow_of_cond 8 hx (by kernel_rfl) (fun k hk=>by cases hk) (by kernel_rfl) (zm9_ os _))) ?_
 intro W base args ds gs before hval0 hW _ hcond hsz hL hsh _
 have hval:∀ (j:Nat) t v,Tryz.f4.params[j]?=some t→args[j]?=some v→Value.okWide Tryz.prog W .any base t v:=hval0
 have hW':=hW
 obtain⟨p,q,hA0,hV0,rfl,_,_⟩:=hW
 have hA:DataW.TrodAll enc Tryz.prog W 0 (fun _=>true) true Tryz.f4.params.toList args.toList ds p:=hA0
 rw[Tryz.params4] at hA hval
 obtain⟨v0,v1,v2,d0,d1,d2,p0,p1,p2,rfl,rfl,rfl,h0,h1,h2⟩:=trodAll_n hA
 obtain⟨rfl,rfl⟩:=trodVars_none hV0
 obtain⟨⟨⟨s0⟩⟩,rfl,rfl,rfl,ws0⟩:=open_string Tryz.underlying9 (hval 0 9 v0 rfl rfl) h0
 have hlt1:∀ x∈p1,x.block<W.heap.size:=fun x hx=>hW'.lt x (by simp [hx])
 obtain⟨a1,len1,cap1,rfl⟩:=okWide_slice Tryz.underlying22 (hval 1 22 v1 rfl rfl)
 obtain⟨l1,hl1,hz1⟩:=zc2_ h1 (zky_ hsz (j:=1) (by kernel_rfl) rfl)
 obtain⟨s2,rfl,rfl,rfl,ws2⟩:=open_int Tryz.underlying3 (hval 2 3 v2 rfl rfl) h2
 clear hA0 hV0 hval0
 refine(zlc_ s0 l1 _ s2 W (env_of hL hsh) hl1 hz1).mono ?_
 rintro e W' ⟨rfl,bel⟩
 refine⟨_,rfl,_,_,_,[],[]++(p1++([])),[],hW',?_,?_,?_,bel.frame _,fun h=>by cases h⟩
 ·exact trodAll_mk1 (shut_bool Tryz.underlying4 _)
 ·exact⟨[],_,(shut_string Tryz.underlying9 ws0),⟨p1,_,(Below.trod laidOut (by as_aux_lemma=>kernel_rfl) (of_decide_eq_true (by as_aux_lemma=>kernel_rfl)) h1 bel hlt1),trodAll_mk1 (shut_int Tryz.underlying3 ws2),rfl⟩,rfl⟩
 ·rfl
theorem card:Rows.FilterValuesCardSaid:=card_of lifted
end Go.Proofs.YtbekpphodbekiaaGreatDoor.filterValues
