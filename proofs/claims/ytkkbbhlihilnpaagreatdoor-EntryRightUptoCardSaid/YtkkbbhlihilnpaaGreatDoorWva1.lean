import Derived.Test.YtkkbbhlihilnpaaGreatDoorWva0
set_option linter.all false
set_option maxHeartbeats 8000000
namespace Go.Proofs.YtkkbbhlihilnpaaGreatDoor
open Go.RowKit
def blankR (r : Int) : Prop := (9 ≤ r ∧ r ≤ 13) ∨ r = 0x85 ∨ r = 0xA0 ∨ r = 0x1680 ∨ (0x2000 ≤ r ∧ r ≤ 0x200A) ∨ r = 0x2028 ∨ r = 0x2029 ∨ r = 0x202F ∨ r = 0x205F ∨ r = 0x3000
instance (r : Int) : Decidable (blankR r) := by unfold blankR; infer_instance
def goesR (r : Int) : Prop := (0 ≤ r ∧ r < 32) ∨ (127 ≤ r ∧ r ≤ 0x9F) ∨ r = 0xAD ∨ r = 0x34F ∨ r = 0x1806 ∨ (0x180B ≤ r ∧ r ≤ 0x180E) ∨ (0x200B ≤ r ∧ r ≤ 0x200F) ∨ (0x202A ≤ r ∧ r ≤ 0x202E) ∨ (0x2060 ≤ r ∧ r ≤ 0x206F) ∨ (0xFE00 ≤ r ∧ r ≤ 0xFE0F) ∨ r = 0xFEFF ∨ (0xFFF9 ≤ r ∧ r ≤ 0xFFFC)
instance (r : Int) : Decidable (goesR r) := by unfold goesR; infer_instance
def refR (r : Int) : Prop := r < 0 ∨ (0xD800 ≤ r ∧ r ≤ 0xF8FF) ∨ (0xFFFD ≤ r ∧ r ≤ 0xFFFF) ∨ 0xF0000 ≤ r
instance (r : Int) : Decidable (refR r) := by unfold refR; infer_instance
def blankB (r : Int) : Bool := decide (blankR r)
def goesB (r : Int) : Bool := decide (goesR r)
def refB (r : Int) : Bool := decide (refR r)
set_option maxRecDepth 100000 in
theorem isBlank_c (r : Int) (w : World) :
  Calls Tryz.prog 238 #[.int .i32 r] w fun e w' => e = .returned (.bool (blankB r)) ∧ w = w' := by
 go_enter Tryz.func238, Tryz.ntmps238
 go_wp2
 all_goals (go_ret; refine ⟨retb ?_, rfl⟩; unfold blankB)
 all_goals (try simp only [beq_iff_eq, beq_eq_false_iff_ne, ne_eq] at *)
 all_goals (first | (refine (decide_eq_true ?_).symm; unfold blankR; omega) | (refine (decide_eq_false ?_).symm; unfold blankR; omega))
set_option maxRecDepth 100000 in
theorem goes_c (r : Int) (w : World) :
  Calls Tryz.prog 239 #[.int .i32 r] w fun e w' => e = .returned (.bool (goesB r)) ∧ w = w' := by
 go_enter Tryz.func239, Tryz.ntmps239
 go_wp2
 all_goals (go_ret; refine ⟨retb ?_, rfl⟩; unfold goesB)
 all_goals (try simp only [beq_iff_eq, beq_eq_false_iff_ne, ne_eq] at *)
 all_goals (first | (refine (decide_eq_true ?_).symm; unfold goesR; omega) | (refine (decide_eq_false ?_).symm; unfold goesR; omega))
set_option maxRecDepth 100000 in
theorem isRefused_c (r : Int) (w : World) :
  Calls Tryz.prog 240 #[.int .i32 r] w fun e w' => e = .returned (.bool (refB r)) ∧ w = w' := by
 go_enter Tryz.func240, Tryz.ntmps240
 go_wp2
 all_goals (go_ret; refine ⟨retb ?_, rfl⟩; unfold refB)
 all_goals (rw [Bool.eq_iff_iff]; simp only [Bool.or_eq_true, Bool.and_eq_true, decide_eq_true_eq, Bool.false_eq_true, Bool.true_eq_false, iff_true, false_iff, true_iff]; unfold refR; omega)
def mapR (r : Int) : Int × Bool × Bool := if blankR r then (32, true, false) else if goesR r then (0, false, false) else if refR r then (0, false, true) else (r, true, false)
set_option maxRecDepth 100000 in
theorem Map_c (r : Int) (w : World) :
  Calls Tryz.prog 192 #[.int .i32 r] w fun e w' => e = .returned (.tuple #[.int .i32 (mapR r).1, .bool (mapR r).2.1, .bool (mapR r).2.2]) ∧ w = w' := by
 cases h1 : blankB r <;> cases h2 : goesB r <;> cases h3 : refB r
 all_goals
  go_enter Tryz.func192, Tryz.ntmps192
  go_wp2_with (first | (go_at_call 238; refine (isBlank_c _ _).mono ?_; rintro e w' ⟨rfl, rfl⟩; rw [h1]) | (go_at_call 239; refine (goes_c _ _).mono ?_; rintro e w' ⟨rfl, rfl⟩; rw [h2]) | (go_at_call 240; refine (isRefused_c _ _).mono ?_; rintro e w' ⟨rfl, rfl⟩; rw [h3]))
  go_ret3
  refine ⟨?_, rfl⟩
  simp only [blankB, goesB, refB, decide_eq_true_eq, decide_eq_false_iff_not] at h1 h2 h3
  simp [mapR, h1, h2, h3]
def foldR (r : Int) : Int :=
 if (65 ≤ r ∧ r ≤ 90) ∨ (0xC0 ≤ r ∧ r ≤ 0xDE ∧ r ≠ 0xD7) ∨ (0x391 ≤ r ∧ r ≤ 0x3A9 ∧ r ≠ 0x3A2) ∨ (0x410 ≤ r ∧ r ≤ 0x42F) then r + 32
 else if 0x400 ≤ r ∧ r ≤ 0x40F then r + 80
 else if r = 0x1E9E then 0xDF
 else if ((0x100 ≤ r ∧ r ≤ 0x137) ∨ (0x14A ≤ r ∧ r ≤ 0x177)) ∧ r % 2 = 0 then r + 1
 else r
set_option maxRecDepth 100000 in
theorem Fold_c (r : Int) (w : World) (h0 : 0 ≤ r) (h1 : r ≤ 0x10FFFF) :
  Calls Tryz.prog 193 #[.int .i32 r] w fun e w' => e = .returned (.int .i32 (foldR r)) ∧ w = w' := by
 go_enter Tryz.func193, Tryz.ntmps193
 go_wp2
 all_goals (go_ret; refine ⟨reti ?_, rfl⟩)
 all_goals (try simp only [beq_iff_eq, beq_eq_false_iff_ne, bne_iff_ne, bne_eq_false_iff_eq, ne_eq] at *)
 all_goals (unfold foldR; repeat' split)
 all_goals omega
end Go.Proofs.YtkkbbhlihilnpaaGreatDoor
