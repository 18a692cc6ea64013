import Derived.Test.YtbekpphodbekiaaGreatDoorWz0
import Derived.Test.YtbekpphodbekiaaGreatDoorW1c
set_option linter.all false
set_option maxHeartbeats 8000000
set_option maxRecDepth 100000
namespace Go.Proofs.YtbekpphodbekiaaGreatDoor.filterLogic
open Go.ChangeShapes Go.WideShapes Go.ChangeAt Go.RowKit Go.Lib Go.Shelf
open Go.ChangeMaps (open_string shut_string)
theorem lifted (os:Os) (started:os.Started) (H:Type) (enc:TypeId × Value→H) (F:Stop.Interp):
  ReturnsInHanded {} Tryz.checked os 3 .any ((OpenSpec.ofChange Rows.filterLogicSpec).preRow enc Tryz.prog Tryz.f3 Rows.filterLogicRow.domain false Rows.filterLogicRow.laid) (((OpenSpec.ofChange Rows.filterLogicSpec).at F).post enc Tryz.prog Tryz.f3 false true false false):=by
 obtain⟨places,hx⟩:=reads os enc
 rw[row_laid]
 refine returnsInHanded_of_row (C:=Tryz.checked) (s:=OpenSpec.ofChange Rows.filterLogicSpec) own started (by kernel_rfl) Tryz.func3
  (witness_row_atRef (enc:=enc) (C:=Tryz.checked) false (laidWorld os) #[.string ⟨#[]⟩,.slice none 0 0,.slice none 0 0,.slice none 0 0] rfl (by kernel_rfl) (by kernel_rfl) (by kernel_rfl)
   (OpenSpec.preRow_of_cond 8 hx (by kernel_rfl) (fun k hk=>by cases hk) (by kernel_rfl) (zm4_ os _))) ?_
 intro W base args ds gs before hval0 hW _ hcond hsz hL hsh _
 have hval:∀ (j:Nat) t v,Tryz.f3.params[j]?=some t→args[j]?=some v→Value.okWide Tryz.prog W .any base t v:=hval0
 have hW':=hW
 obtain⟨p,q,hA0,hV0,rfl,_,_⟩:=hW
 have hA:DataW.TrodAll enc Tryz.prog W 0 (fun _=>true) true Tryz.f3.params.toList args.toList ds p:=hA0
 rw[Tryz.params3] at hA hval
 obtain⟨v0,v1,v2,v3,d0,d1,d2,d3,p0,p1,p2,p3,rfl,rfl,rfl,h0,h1,h2,h3⟩:=trodAll_n hA
 obtain⟨rfl,rfl⟩:=trodVars_none hV0
 obtain⟨⟨⟨s0⟩⟩,rfl,rfl,rfl,ws0⟩:=open_string Tryz.underlying9 (hval 0 9 v0 rfl rfl) h0
 have hlt1:∀ x∈p1,x.block<W.heap.size:=fun x hx=>hW'.lt x (by simp [hx])
 obtain⟨a1,len1,cap1,rfl⟩:=okWide_slice Tryz.underlying22 (hval 1 22 v1 rfl rfl)
 obtain⟨l1,hl1,hz1⟩:=zbf_ h1 (z68_ hsz (j:=1) (by kernel_rfl) rfl)
 have hlt2:∀ x∈p2,x.block<W.heap.size:=fun x hx=>hW'.lt x (by simp [hx])
 obtain⟨a2,len2,cap2,rfl⟩:=okWide_slice Tryz.underlying23 (hval 2 23 v2 rfl rfl)
 obtain⟨l2,hl2,hz2⟩:=z4z_ h2 (z68_ hsz (j:=2) (by kernel_rfl) rfl)
 have hlt3:∀ x∈p3,x.block<W.heap.size:=fun x hx=>hW'.lt x (by simp [hx])
 obtain⟨a3,len3,cap3,rfl⟩:=okWide_slice Tryz.underlying23 (hval 3 23 v3 rfl rfl)
 obtain⟨l3,hl3,hz3⟩:=z4z_ h3 (z68_ hsz (j:=3) (by kernel_rfl) rfl)
 clear hA0 hV0 hval0
 refine(zo1_ s0 l1 _ l2 _ l3 _ W (env_of hL hsh) hl1 hz1 hl2 hz2 hl3 hz3).mono ?_
 rintro e W' ⟨rfl,bel⟩
 refine⟨_,rfl,_,_,_,[],[]++(p1++(p2++(p3))),[],hW',?_,?_,?_,bel.frame _,fun h=>by cases h⟩
 ·exact trodAll_mk1 (shut_bool Tryz.underlying4 _)
 ·exact⟨[],_,(shut_string Tryz.underlying9 ws0),⟨p1,_,(Below.trod laidOut (by as_aux_lemma=>kernel_rfl) (of_decide_eq_true (by as_aux_lemma=>kernel_rfl)) h1 bel hlt1),⟨p2,_,(Below.trod laidOut (by as_aux_lemma=>kernel_rfl) (of_decide_eq_true (by as_aux_lemma=>kernel_rfl)) h2 bel hlt2),trodAll_mk1 (Below.trod laidOut (by as_aux_lemma=>kernel_rfl) (of_decide_eq_true (by as_aux_lemma=>kernel_rfl)) h3 bel hlt3),rfl⟩,rfl⟩,rfl⟩
 ·rfl
theorem card:Rows.FilterLogicCardSaid:=card_of lifted
end Go.Proofs.YtbekpphodbekiaaGreatDoor.filterLogic
