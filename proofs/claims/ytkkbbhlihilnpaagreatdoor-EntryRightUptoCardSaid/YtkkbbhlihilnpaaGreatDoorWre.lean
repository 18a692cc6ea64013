import Derived.Test.YtkkbbhlihilnpaaGreatDoorWrd
import Derived.Test.YtkkbbhlihilnpaaGreatDoorWrc
set_option linter.all false
set_option maxHeartbeats 8000000
namespace Go.Proofs.YtkkbbhlihilnpaaGreatDoor.entryRight
open Go.ChangeShapes Go.WideShapes Go.ChangeAt Go.RowKit Go.Lib Go.Shelf
open Go.ChangeMaps (open_string shut_string)
set_option maxRecDepth 100000 in
theorem lifted (os : Os) (started : os.Started) (H : Type) (enc : TypeId × Value → H) (F : Stop.Interp) :
  ReturnsInHanded {} Tryz.checked os 4 .any ((Rows.OpenSpec.upto Rows.entryRightSpec).preRow enc Tryz.prog Tryz.f4 Rows.entryRightUptoRow.domain false Rows.entryRightUptoRow.laid) (((Rows.OpenSpec.upto Rows.entryRightSpec).at F).post enc Tryz.prog Tryz.f4 false true false false) := by
 obtain ⟨places, hx⟩ := reads os enc
 rw [row_laid]
 refine returnsInHanded_of_row (C := Tryz.checked) (s := Rows.OpenSpec.upto Rows.entryRightSpec) own started (by kernel_rfl) Tryz.func4
  (witness_row_atRef (enc := enc) (C := Tryz.checked) false (laidWorld os) #[.string ⟨#[]⟩, .slice none 0 0] rfl (by kernel_rfl) (by kernel_rfl) (by kernel_rfl)
   (OpenSpec.preRow_of_cond 8 hx (by kernel_rfl) (fun k hk => by cases hk; kernel_rfl) (by kernel_rfl) (laid_met os _))) ?_
 intro W base args ds gs before hval0 hW _ hcond hsz hL hsh _
 have hk : Rows.uptoSmall H (ds ++ gs) = true := hcond _ rfl
 have hval : ∀ (j : Nat) t v, Tryz.f4.params[j]? = some t → args[j]? = some v → Value.okWide Tryz.prog W .any base t v := hval0
 have hW' := hW
 obtain ⟨p, q, hA0, hV0, rfl, _, _⟩ := hW
 have hA : DataW.TrodAll enc Tryz.prog W 0 (fun _ => true) true Tryz.f4.params.toList args.toList ds p := hA0
 rw [Tryz.params4] at hA hval
 obtain ⟨v0, v1, d0, d1, p0, p1, rfl, rfl, rfl, h0, h1⟩ := trodAll_n hA
 obtain ⟨rfl, rfl⟩ := trodVars_none hV0
 obtain ⟨⟨⟨s0⟩⟩, rfl, rfl, rfl, ws0⟩ := open_string Tryz.underlying9 (hval 0 9 v0 rfl rfl) h0
 have hlt1 : ∀ x ∈ p1, x.block < W.heap.size := fun x hx => hW'.lt x (by simp [hx])
 obtain ⟨a1, len1, cap1, rfl⟩ := okWide_slice Tryz.underlying32 (hval 1 32 v1 rfl rfl)
 obtain ⟨l1, hl1, hb1⟩ := attrs_arg h1
 have hbk : (l1.map fun a => 1 + attrW a).sum + s0.length ≤ 1048576 := by
  have hb : Rows.uptoBulkAll ([DataW.lit (.string s0), d1] ++ ([] : List (DataW H))) ≤ 1048576 := of_decide_eq_true hk
  simp only [List.append_nil, Rows.uptoBulkAll, Rows.uptoBulk] at hb
  omega
 clear hA0 hV0 hval0
 refine (right_c s0 l1 _ W (env_of hL hsh) hl1 hbk).mono ?_
 rintro e W' ⟨rfl, bel⟩
 refine ⟨_, rfl, _, _, _, [], [] ++ (p1), [], hW', ?_, ?_, ?_, bel.frame _, fun h => by cases h⟩
 ·exact trodAll_mk1 (shut_bool Tryz.underlying4 _)
 ·exact ⟨[], _, (shut_string Tryz.underlying9 ws0), trodAll_mk1 (Below.trod laidOut (by as_aux_lemma => kernel_rfl) (of_decide_eq_true (by as_aux_lemma => kernel_rfl)) h1 bel hlt1), rfl⟩
 ·rfl
theorem card : Rows.EntryRightUptoCardSaid := card_of lifted
end Go.Proofs.YtkkbbhlihilnpaaGreatDoor.entryRight
