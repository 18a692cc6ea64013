import Derived.Test.YtnnopncgpcbjaaaGreatDoorWvf0
import Derived.Test.YtnnopncgpcbjaaaGreatDoorWvf1
import Derived.Test.YtnnopncgpcbjaaaGreatDoorWvf2
import Derived.Test.YtnnopncgpcbjaaaGreatDoorWva2
import Derived.SizedLaws
import Derived.Carry
import Derived.Test.YtnnopncgpcbjaaaGreatDoorWvf4
set_option linter.all false
set_option maxHeartbeats 8000000
namespace Go.Proofs.YtnnopncgpcbjaaaGreatDoor
open Go.RowKit
theorem who_c (who key name : List UInt8) (kind : Int) (w : World) (hw : Env w) (h1 : who.length ≤ 140737488355328) (h2 : key.length ≤ 140737488355328) (h3 : name.length ≤ 140737488355328) :
  Calls Tryz.prog 8 #[.string ⟨who.toArray⟩, .string ⟨key.toArray⟩, .string ⟨name.toArray⟩, .int .i64 kind] w fun e w' => e = .returned (.bool true) ∧ Below w.heap.size w w' := by
 by_cases ho : 1000 < who.length + key.length + name.length ∨ kind < 0 ∨ 6 < kind
 ·exact who_out who key name kind w hw h1 h2 h3 ho
 ·by_cases hk : (keyS baseL who).1 ≠ 0 ∨ (keyS baseL key).1 ≠ 0 ∨ (keyS baseL name).1 ≠ 0
  ·exact who_keys who key name kind w hw (by omega) (by omega) (by omega) hk
  ·have e1 : (keyS baseL who).1 = 0 := by omega
   have e2 : (keyS baseL key).1 = 0 := by omega
   have e3 : (keyS baseL name).1 = 0 := by omega
   have a1 : keyS baseL who = (0, (keyS baseL who).2) := by rw [← e1]
   have a2 : keyS baseL key = (0, (keyS baseL key).2) := by rw [← e2]
   have a3 : keyS baseL name = (0, (keyS baseL name).2) := by rw [← e3]
   have hc : (kind = 0 ∨ kind = 1 ∨ kind = 2) ∨ (kind = 3 ∨ kind = 4) ∨ (kind = 5 ∨ kind = 6) := by omega
   rcases hc with hc | hc | hc
   ·exact who_main_a who key name _ _ _ kind w hw (by omega) (by omega) (by omega) hc a1 a2 a3
   ·exact who_main_b who key name _ _ _ kind w hw (by omega) (by omega) (by omega) hc a1 a2 a3
   ·exact who_main_c who key name _ _ _ kind w hw (by omega) (by omega) (by omega) hc a1 a2 a3
end Go.Proofs.YtnnopncgpcbjaaaGreatDoor
namespace Go.Proofs.YtnnopncgpcbjaaaGreatDoor.aclWho
open Go.ChangeShapes Go.WideShapes Go.ChangeAt Go.RowKit Go.Lib Go.Shelf
open Go.ChangeMaps (open_string shut_string)

set_option maxRecDepth 100000 in
theorem lifted (os : Os) (started : os.Started) (H : Type) (enc : TypeId × Value → H) (F : Stop.Interp) :
  ReturnsInHanded {} Tryz.checked os 8 .any ((OpenSpec.ofChange Rows.aclWhoSpec).preRow enc Tryz.prog Tryz.f8 Rows.aclWhoRow.domain false Rows.aclWhoRow.laid) (((OpenSpec.ofChange Rows.aclWhoSpec).at F).post enc Tryz.prog Tryz.f8 false true false false) := by
 obtain ⟨places, hx⟩ := reads os enc
 rw [row_laid]
 refine returnsInHanded_of_row (C := Tryz.checked) (s := OpenSpec.ofChange Rows.aclWhoSpec) own started (by kernel_rfl) Tryz.func8
  (witness_row_atRef (enc := enc) (C := Tryz.checked) false (laidWorld os) #[.string ⟨#[]⟩, .string ⟨#[]⟩, .string ⟨#[]⟩, .int .i64 0] rfl (by kernel_rfl) (by kernel_rfl) (by kernel_rfl)
   (OpenSpec.preRow_of_cond 8 hx (by kernel_rfl) (fun k hk => by cases hk) (by kernel_rfl) (laid_met os _))) ?_
 intro W base args ds gs before hval0 hW _ _ hsz hL hsh _
 have hval : ∀ (j : Nat) t v, Tryz.f8.params[j]? = some t → args[j]? = some v → Value.okWide Tryz.prog W .any base t v := hval0
 have hW' := hW
 obtain ⟨p, q, hA0, hV0, rfl, _, _⟩ := hW
 have hA : DataW.TrodAll enc Tryz.prog W 0 (fun _ => true) true Tryz.f8.params.toList args.toList ds p := hA0
 rw [Tryz.params8] at hA hval
 obtain ⟨v0, v1, v2, v3, d0, d1, d2, d3, p0, p1, p2, p3, rfl, rfl, rfl, h0, h1, h2, h3⟩ := trodAll_four hA
 obtain ⟨rfl, rfl⟩ := trodVars_none hV0
 obtain ⟨⟨⟨s0⟩⟩, rfl, rfl, rfl, ws0⟩ := open_string Tryz.underlying9 (hval 0 9 v0 rfl rfl) h0
 obtain ⟨⟨⟨s1⟩⟩, rfl, rfl, rfl, ws1⟩ := open_string Tryz.underlying9 (hval 1 9 v1 rfl rfl) h1
 obtain ⟨⟨⟨s2⟩⟩, rfl, rfl, rfl, ws2⟩ := open_string Tryz.underlying9 (hval 2 9 v2 rfl rfl) h2
 obtain ⟨s3, rfl, rfl, rfl, ws3⟩ := open_int Tryz.underlying3 (hval 3 3 v3 rfl rfl) h3
 clear hA0 hV0 hval0
 refine (who_c s0 s1 s2 s3 W (env_of hL hsh) (by have := sized_string hsz (j := 0) (t := 9) (bytes := s0) (by kernel_rfl) rfl; unfold reachBytes at this; omega) (by have := sized_string hsz (j := 1) (t := 9) (bytes := s1) (by kernel_rfl) rfl; unfold reachBytes at this; omega) (by have := sized_string hsz (j := 2) (t := 9) (bytes := s2) (by kernel_rfl) rfl; unfold reachBytes at this; omega)).mono ?_
 rintro e W' ⟨rfl, bel⟩
 refine ⟨_, rfl, _, _, _, [], [], [], hW', ?_, ?_, ?_, bel.frame _, fun h => by cases h⟩
 ·exact trodAll_mk1 (shut_bool Tryz.underlying4 _)
 ·exact trodAll_mk4 (shut_string Tryz.underlying9 ws0) (shut_string Tryz.underlying9 ws1) (shut_string Tryz.underlying9 ws2) (shut_int Tryz.underlying3 ws3)
 ·rfl
theorem card : Rows.AclWhoCardSaid := card_of lifted
end Go.Proofs.YtnnopncgpcbjaaaGreatDoor.aclWho
