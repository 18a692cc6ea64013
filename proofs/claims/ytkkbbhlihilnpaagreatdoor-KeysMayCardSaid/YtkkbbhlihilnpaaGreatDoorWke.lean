import Derived.Test.YtkkbbhlihilnpaaGreatDoorWkd
import Derived.Test.YtkkbbhlihilnpaaGreatDoorWkc
set_option linter.all false
set_option maxHeartbeats 8000000
set_option maxRecDepth 100000
namespace Go.Proofs.YtkkbbhlihilnpaaGreatDoor.keysMay
open Go.ChangeShapes Go.WideShapes Go.ChangeAt Go.RowKit Go.Lib Go.Shelf
open Go.ChangeMaps (open_string shut_string)
set_option maxRecDepth 100000 in
theorem lifted (os : Os) (started : os.Started) (H : Type) (enc : TypeId × Value → H) (F : Stop.Interp) :
  ReturnsInHanded {} Tryz.checked os 3 .any ((OpenSpec.ofChange Rows.keysMaySpec).preRow enc Tryz.prog Tryz.f3 Rows.keysMayRow.domain false Rows.keysMayRow.laid) (((OpenSpec.ofChange Rows.keysMaySpec).at F).post enc Tryz.prog Tryz.f3 false true false false) := by
 obtain ⟨places, hx⟩ := reads os enc
 rw [row_laid]
 refine returnsInHanded_of_row (C := Tryz.checked) (s := OpenSpec.ofChange Rows.keysMaySpec) own started (by kernel_rfl) Tryz.func3
  (witness_row_atRef (enc := enc) (C := Tryz.checked) false (laidWorld os) #[.slice none 0 0, .slice none 0 0] rfl (by kernel_rfl) (by kernel_rfl) (by kernel_rfl)
   (OpenSpec.preRow_of_cond 8 hx (by kernel_rfl) (fun k hk => by cases hk) (by kernel_rfl) (laid_met os _))) ?_
 intro W base args ds gs before hval0 hW _ hcond hsz hL hsh _
 have hval : ∀ (j : Nat) t v, Tryz.f3.params[j]? = some t → args[j]? = some v → Value.okWide Tryz.prog W .any base t v := hval0
 have hW' := hW
 obtain ⟨p, q, hA0, hV0, rfl, _, _⟩ := hW
 have hA : DataW.TrodAll enc Tryz.prog W 0 (fun _ => true) true Tryz.f3.params.toList args.toList ds p := hA0
 rw [Tryz.params3] at hA hval
 obtain ⟨v0, v1, d0, d1, p0, p1, rfl, rfl, rfl, h0, h1⟩ := trodAll_n hA
 obtain ⟨rfl, rfl⟩ := trodVars_none hV0
 have hlt0 : ∀ x ∈ p0, x.block < W.heap.size := fun x hx => hW'.lt x (by simp [hx])
 obtain ⟨a0, len0, cap0, rfl⟩ := okWide_slice Tryz.underlying22 (hval 0 22 v0 rfl rfl)
 obtain ⟨l0, hl0, hz0⟩ := plans_arg h0
 have hlt1 : ∀ x ∈ p1, x.block < W.heap.size := fun x hx => hW'.lt x (by simp [hx])
 obtain ⟨a1, len1, cap1, rfl⟩ := okWide_slice Tryz.underlying23 (hval 1 23 v1 rfl rfl)
 obtain ⟨l1, hl1⟩ := texts_arg h1
 clear hA0 hV0 hval0
 refine (keysLaw_c l0 _ l1 _ W (env_of hL hsh) hl0 hz0 hl1).mono ?_
 rintro e W' ⟨rfl, bel⟩
 refine ⟨_, rfl, _, _, _, [], p0 ++ (p1), [], hW', ?_, ?_, ?_, bel.frame _, fun h => by cases h⟩
 ·exact trodAll_mk1 (shut_bool Tryz.underlying4 _)
 ·exact ⟨p0, _, (Below.trod laidOut (by as_aux_lemma => kernel_rfl) (of_decide_eq_true (by as_aux_lemma => kernel_rfl)) h0 bel hlt0), trodAll_mk1 (Below.trod laidOut (by as_aux_lemma => kernel_rfl) (of_decide_eq_true (by as_aux_lemma => kernel_rfl)) h1 bel hlt1), rfl⟩
 ·rfl
theorem card : Rows.KeysMayCardSaid := card_of lifted
end Go.Proofs.YtkkbbhlihilnpaaGreatDoor.keysMay
