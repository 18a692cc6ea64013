import Derived.Test.YtbjmpmgiigombaaGreatDoorWk3
import Derived.Test.YtbjmpmgiigombaaGreatDoorWk2
set_option linter.all false
set_option maxHeartbeats 8000000
namespace Go.Proofs.YtbjmpmgiigombaaGreatDoor.aclFirst
open Go.ChangeShapes Go.WideShapes Go.ChangeAt Go.RowKit Go.Lib Go.Shelf
open Go.ChangeMaps (open_string shut_string)
set_option maxRecDepth 100000 in
theorem lifted (os : Os) (started : os.Started) (H : Type) (enc : TypeId × Value → H) (F : Stop.Interp) :
  ReturnsInHanded {} Tryz.checked os 5 .any ((Rows.OpenSpec.upto Rows.aclFirstSpec).preRow enc Tryz.prog Tryz.f5 Rows.aclFirstUptoRow.domain false Rows.aclFirstUptoRow.laid) (((Rows.OpenSpec.upto Rows.aclFirstSpec).at F).post enc Tryz.prog Tryz.f5 false true false false) := by
 obtain ⟨places, hx⟩ := reads os enc
 rw [row_laid]
 refine returnsInHanded_of_row (C := Tryz.checked) (s := Rows.OpenSpec.upto Rows.aclFirstSpec) own started (by kernel_rfl) Tryz.func5
  (witness_row_atRef (enc := enc) (C := Tryz.checked) false (laidWorld os) #[.slice none 0 0, .slice none 0 0, .string ⟨#[]⟩, .string ⟨#[]⟩, .string ⟨#[]⟩, .int .i64 0] rfl (by kernel_rfl) (by kernel_rfl) (by kernel_rfl)
   (OpenSpec.preRow_of_cond 8 hx (by kernel_rfl) (fun k hk => by cases hk; kernel_rfl) (by kernel_rfl) (laid_met os _))) ?_
 intro W base args ds gs before hval0 hW _ hcond hsz hL hsh _
 have hk : Rows.uptoSmall H (ds ++ gs) = true := hcond _ rfl
 have hval : ∀ (j : Nat) t v, Tryz.f5.params[j]? = some t → args[j]? = some v → Value.okWide Tryz.prog W .any base t v := hval0
 have hW' := hW
 obtain ⟨p, q, hA0, hV0, rfl, _, _⟩ := hW
 have hA : DataW.TrodAll enc Tryz.prog W 0 (fun _ => true) true Tryz.f5.params.toList args.toList ds p := hA0
 rw [Tryz.params5] at hA hval
 obtain ⟨v0, v1, v2, v3, v4, v5, d0, d1, d2, d3, d4, d5, p0, p1, p2, p3, p4, p5, rfl, rfl, rfl, h0, h1, h2, h3, h4, h5⟩ := trodAll_n hA
 obtain ⟨rfl, rfl⟩ := trodVars_none hV0
 have hlt0 : ∀ x ∈ p0, x.block < W.heap.size := fun x hx => hW'.lt x (by simp [hx])
 obtain ⟨a0, len0, cap0, rfl⟩ := okWide_slice Tryz.underlying53 (hval 0 53 v0 rfl rfl)
 obtain ⟨rs0, hr0, hn0, hb0⟩ := rules_arg h0
 have hlt1 : ∀ x ∈ p1, x.block < W.heap.size := fun x hx => hW'.lt x (by simp [hx])
 obtain ⟨a1, len1, cap1, rfl⟩ := okWide_slice Tryz.underlying53 (hval 1 53 v1 rfl rfl)
 obtain ⟨rs1, hr1, hn1, hb1⟩ := rules_arg h1
 obtain ⟨⟨⟨s2⟩⟩, rfl, rfl, rfl, ws2⟩ := open_string Tryz.underlying9 (hval 2 9 v2 rfl rfl) h2
 obtain ⟨⟨⟨s3⟩⟩, rfl, rfl, rfl, ws3⟩ := open_string Tryz.underlying9 (hval 3 9 v3 rfl rfl) h3
 obtain ⟨⟨⟨s4⟩⟩, rfl, rfl, rfl, ws4⟩ := open_string Tryz.underlying9 (hval 4 9 v4 rfl rfl) h4
 obtain ⟨s5, rfl, rfl, rfl, ws5⟩ := open_int Tryz.underlying3 (hval 5 3 v5 rfl rfl) h5
 have hbk : (rs0.map fun r => 1 + ruleW r).sum + (rs1.map fun r => 1 + ruleW r).sum + s2.length + s3.length + s4.length ≤ 1048576 := by
  have hb : Rows.uptoBulkAll ([d0, d1, DataW.lit (.string s2), DataW.lit (.string s3), DataW.lit (.string s4), DataW.lit (.int .i64 s5)] ++ ([] : List (DataW H))) ≤ 1048576 := of_decide_eq_true hk
  simp only [List.append_nil, Rows.uptoBulkAll, Rows.uptoBulk] at hb
  omega
 clear hA0 hV0 hval0
 refine (first_c rs0 _ rs1 _ s2 s3 s4 s5 W (env_of hL hsh) hr0 hn0 hr1 hn1 hbk).mono ?_
 rintro e W' ⟨rfl, bel⟩
 refine ⟨_, rfl, _, _, _, [], p0 ++ (p1 ++ ([] ++ ([] ++ ([] ++ ([]))))), [], hW', ?_, ?_, ?_, bel.frame _, fun h => by cases h⟩
 ·exact trodAll_mk1 (shut_bool Tryz.underlying4 _)
 ·exact ⟨p0, _, (Below.trod laidOut (by as_aux_lemma => kernel_rfl) (of_decide_eq_true (by as_aux_lemma => kernel_rfl)) h0 bel hlt0), ⟨p1, _, (Below.trod laidOut (by as_aux_lemma => kernel_rfl) (of_decide_eq_true (by as_aux_lemma => kernel_rfl)) h1 bel hlt1), ⟨[], _, (shut_string Tryz.underlying9 ws2), ⟨[], _, (shut_string Tryz.underlying9 ws3), ⟨[], _, (shut_string Tryz.underlying9 ws4), trodAll_mk1 (shut_int Tryz.underlying3 ws5), rfl⟩, rfl⟩, rfl⟩, rfl⟩, rfl⟩
 ·rfl
theorem card : Rows.AclFirstUptoCardSaid := card_of lifted
end Go.Proofs.YtbjmpmgiigombaaGreatDoor.aclFirst
