/- For every input of bulk at most 1048576 chancerylaw's AclInvalid returns true, and its arguments read as before; the two tables of unicode/utf8 that the row lists hold what Go's library lays there. -/
import Derived.Test.YtnnopncgpcbjaaaGreatDoorWva2
import Derived.SizedLaws
import Derived.Carry
import Derived.Test.YtnnopncgpcbjaaaGreatDoorWi2
import Derived.Test.YtnnopncgpcbjaaaGreatDoorWi3
import Derived.Test.YtnnopncgpcbjaaaGreatDoorWi1
set_option linter.all false
set_option maxHeartbeats 8000000
namespace Go.Proofs.YtnnopncgpcbjaaaGreatDoor.aclInvalid
open Go.ChangeShapes Go.WideShapes Go.ChangeAt Go.RowKit Go.Lib Go.Shelf
open Go.ChangeMaps (open_string shut_string)

set_option maxRecDepth 100000 in
theorem lifted (os : Os) (started : os.Started) (H : Type) (enc : TypeId × Value → H) (F : Stop.Interp) :
    ReturnsInHanded {} Tryz.checked os 7 .any ((Rows.OpenSpec.upto Rows.aclInvalidSpec).preRow enc Tryz.prog Tryz.f7 Rows.aclInvalidUptoRow.domain false Rows.aclInvalidUptoRow.laid) (((Rows.OpenSpec.upto Rows.aclInvalidSpec).at F).post enc Tryz.prog Tryz.f7 false true false false) := by
  obtain ⟨places, hx⟩ := reads os enc
  rw [row_laid]
  refine returnsInHanded_of_row (C := Tryz.checked) (s := Rows.OpenSpec.upto Rows.aclInvalidSpec) own started (by kernel_rfl) Tryz.func7
    (witness_row_atRef (enc := enc) (C := Tryz.checked) false (laidWorld os) #[.slice none 0 0, .int .i64 0, .string ⟨#[]⟩, .string ⟨#[]⟩, .string ⟨#[]⟩] rfl (by kernel_rfl) (by kernel_rfl) (by kernel_rfl)
      (OpenSpec.preRow_of_cond 8 hx (by kernel_rfl) (fun k hk => by cases hk; kernel_rfl) (by kernel_rfl) (laid_met os _))) ?_
  intro W base args ds gs before hval0 hW _ hcond hsz hL hsh _
  have hk : Rows.uptoSmall H (ds ++ gs) = true := hcond _ rfl
  have hval : ∀ (j : Nat) t v, Tryz.f7.params[j]? = some t → args[j]? = some v → Value.okWide Tryz.prog W .any base t v := hval0
  have hW' := hW
  obtain ⟨p, q, hA0, hV0, rfl, _, _⟩ := hW
  have hA : DataW.TrodAll enc Tryz.prog W 0 (fun _ => true) true Tryz.f7.params.toList args.toList ds p := hA0
  rw [Tryz.params7] at hA hval
  obtain ⟨v0, v1, v2, v3, v4, d0, d1, d2, d3, d4, p0, p1, p2, p3, p4, rfl, rfl, rfl, h0, h1, h2, h3, h4⟩ := trodAll_n hA
  obtain ⟨rfl, rfl⟩ := trodVars_none hV0
  have hlt0 : ∀ x ∈ p0, x.block < W.heap.size := fun x hx => hW'.lt x (by simp [hx])
  obtain ⟨a0, len0, cap0, rfl⟩ := okWide_slice Tryz.underlying72 (hval 0 72 v0 rfl rfl)
  obtain ⟨rs0, hr0, hn0, hb0⟩ := rules_arg h0
  obtain ⟨s1, rfl, rfl, rfl, ws1⟩ := open_int Tryz.underlying3 (hval 1 3 v1 rfl rfl) h1
  obtain ⟨⟨⟨s2⟩⟩, rfl, rfl, rfl, ws2⟩ := open_string Tryz.underlying9 (hval 2 9 v2 rfl rfl) h2
  obtain ⟨⟨⟨s3⟩⟩, rfl, rfl, rfl, ws3⟩ := open_string Tryz.underlying9 (hval 3 9 v3 rfl rfl) h3
  obtain ⟨⟨⟨s4⟩⟩, rfl, rfl, rfl, ws4⟩ := open_string Tryz.underlying9 (hval 4 9 v4 rfl rfl) h4
  have hbk : (rs0.map fun r => 1 + ruleW r).sum + s2.length + s3.length + s4.length ≤ 1048576 := by
    have hb : Rows.uptoBulkAll ([d0, DataW.lit (.int .i64 s1), DataW.lit (.string s2), DataW.lit (.string s3), DataW.lit (.string s4)] ++ ([] : List (DataW H))) ≤ 1048576 := of_decide_eq_true hk
    simp only [List.append_nil, Rows.uptoBulkAll, Rows.uptoBulk] at hb
    omega
  clear hA0 hV0 hval0
  refine (invalid_c rs0 _ s1 s2 s3 s4 W (env_of hL hsh) hr0 hn0 hbk).mono ?_
  rintro e W' ⟨rfl, bel⟩
  refine ⟨_, rfl, _, _, _, [], p0 ++ ([] ++ ([] ++ ([] ++ ([])))), [], hW', ?_, ?_, ?_, bel.frame _, fun h => by cases h⟩
  · exact trodAll_mk1 (shut_bool Tryz.underlying4 _)
  · exact ⟨p0, _, (Below.trod laidOut (by as_aux_lemma => kernel_rfl) (of_decide_eq_true (by as_aux_lemma => kernel_rfl)) h0 bel hlt0), ⟨[], _, (shut_int Tryz.underlying3 ws1), ⟨[], _, (shut_string Tryz.underlying9 ws2), ⟨[], _, (shut_string Tryz.underlying9 ws3), trodAll_mk1 (shut_string Tryz.underlying9 ws4), rfl⟩, rfl⟩, rfl⟩, rfl⟩
  · rfl
/-- THE CARD -/
theorem card : Rows.AclInvalidUptoCardSaid := card_of lifted
end Go.Proofs.YtnnopncgpcbjaaaGreatDoor.aclInvalid
