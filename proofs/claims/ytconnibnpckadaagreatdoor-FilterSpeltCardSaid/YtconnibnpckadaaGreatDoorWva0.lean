import Derived.Test.YtconnibnpckadaaGreatDoorProg
import Derived.WalkKit
import Derived.WalkSpells
import Derived.WalkLawsBesides
import Derived.Lib.Hide
set_option linter.all false
set_option maxHeartbeats 8000000
set_option maxRecDepth 100000
namespace Go.Proofs.YtconnibnpckadaaGreatDoor
open Go.RowKit
def letB (c : Int) : Bool := decide (97 ≤ c) && decide (c ≤ 122) || decide (65 ≤ c) && decide (c ≤ 90)
def digB (c : Int) : Bool := decide (48 ≤ c) && decide (c ≤ 57)
def inTypeB (c : Int) : Bool := letB c || digB c || c == 45 || c == 46
theorem gsx {α : Type} : (∀ (l : List α) (i : Nat) (h : i < l.toArray.size), l.toArray[i] = l[i]'h) ∧ (∀ (a : α) (l : List α) (h : 0 < (a :: l).length), (a :: l)[0] = a) ∧
  (∀ (a : α) (l : List α) (i : Nat) (h : i + 1 < (a :: l).length), (a :: l)[i + 1] = l[i]'(Nat.lt_of_succ_lt_succ h)) ∧ (∀ (l : List α) (i : Nat) (a : α), l.toArray.setIfInBounds i a = (l.set i a).toArray) ∧
  (∀ (a b : α) (l : List α), (a :: l).set 0 b = b :: l) ∧ (∀ (a b : α) (l : List α) (n : Nat), (a :: l).set (n + 1) b = a :: l.set n b) :=
 ⟨fun _ _ _ => List.getElem_toArray .., fun _ _ _ => List.getElem_cons_zero .., fun _ _ _ _ => List.getElem_cons_succ .., fun _ _ _ => List.setIfInBounds_toArray .., fun _ _ _ => List.set_cons_zero, fun _ _ _ _ => List.set_cons_succ⟩
theorem retb {a b : Bool} (h : a = b) : Ending.returned (.bool a) = .returned (.bool b) := by rw [h]
theorem reti {k : IntKind} {a b : Int} (h : a = b) : Ending.returned (.int k a) = .returned (.int k b) := by rw [h]
theorem ba_get (l : List UInt8) (k : Nat) (h : k < (⟨l.toArray⟩ : ByteArray).size) : (⟨l.toArray⟩ : ByteArray)[k] = l[k]'(by simpa [ByteArray.size] using h) := rfl
theorem isLetter_c (c : Int) (w : World) :
  Calls Tryz.prog 72 #[.int .u8 c] w fun e w' => e = .returned (.bool (letB c)) ∧ w = w' := by
 go_enter Tryz.func72, Tryz.ntmps72
 go_wp2
 all_goals (go_ret; refine ⟨retb ?_, rfl⟩; unfold letB; rw [Bool.eq_iff_iff]; simp; omega)
theorem isDigit_c (c : Int) (w : World) :
  Calls Tryz.prog 121 #[.int .u8 c] w fun e w' => e = .returned (.bool (digB c)) ∧ w = w' := by
 go_enter Tryz.func121, Tryz.ntmps121
 go_wp2
 all_goals (go_ret; refine ⟨retb ?_, rfl⟩; unfold digB; rw [Bool.eq_iff_iff]; simp; omega)
theorem inType_c (c : Int) (w : World) :
  Calls Tryz.prog 74 #[.int .u8 c] w fun e w' => e = .returned (.bool (inTypeB c)) ∧ w = w' := by
 cases h1 : letB c <;> cases h2 : digB c
 all_goals
  go_enter Tryz.func74, Tryz.ntmps74
  go_wp2_with (first | (go_at_call 72; refine (isLetter_c _ _).mono ?_; rintro e w' ⟨rfl, rfl⟩; rw [h1]) | (go_at_call 121; refine (isDigit_c _ _).mono ?_; rintro e w' ⟨rfl, rfl⟩; rw [h2]))
  all_goals (go_ret; refine ⟨retb ?_, rfl⟩; unfold inTypeB; simp [*])
def digitV (c : Int) : Int := if 48 ≤ c ∧ c ≤ 57 then c - 48 else if 97 ≤ c ∧ c ≤ 102 then c - 87 else if 65 ≤ c ∧ c ≤ 70 then c - 55 else -1
theorem Digit_c (c : Int) (w : World) (h0 : 0 ≤ c) (h1 : c < 256) :
  Calls Tryz.prog 140 #[.int .u8 c] w fun e w' => e = .returned (.int .i64 (digitV c)) ∧ w = w' := by
 go_enter Tryz.func140, Tryz.ntmps140
 go_wp2
 all_goals (go_ret; refine ⟨reti ?_, rfl⟩; unfold digitV; repeat' split)
 all_goals (first | omega | (simp; omega))
def daysV (y m : Int) : Int := if m = 4 ∨ m = 6 ∨ m = 9 ∨ m = 11 then 30 else if m = 2 then (if y % 4 = 0 ∧ y % 100 ≠ 0 ∨ y % 400 = 0 then 29 else 28) else 31
theorem days_c (y m : Int) (w : World) (h0 : 0 ≤ y) (h1 : y < 10000) :
  Calls Tryz.prog 188 #[.int .i64 y, .int .i64 m] w fun e w' => e = .returned (.int .i64 (daysV y m)) ∧ w = w' := by
 go_enter Tryz.func188, Tryz.ntmps188
 go_wp2
 all_goals (go_ret; refine ⟨reti ?_, rfl⟩; unfold daysV)
 all_goals (simp only [beq_iff_eq, beq_eq_false_iff_ne, bne_iff_ne, bne_eq_false_iff_eq, ne_eq] at *)
 all_goals (repeat' split)
 all_goals omega
def asciiL : List UInt8 → Bool
 | [] => true
 | c :: r => decide (c.toNat < 128) && asciiL r
set_option maxRecDepth 10000 in
theorem isASCII_c (l : List UInt8) (w : World) (hl : l.length ≤ 1024) :
  Calls Tryz.prog 158 #[.string ⟨l.toArray⟩] w fun e w' => e = .returned (.bool (asciiL l)) ∧ w = w' := by
 have hget := ba_get
 go_enter Tryz.func158, Tryz.ntmps158
 go_wp2
 go_loop [6] (fun i => ∃ k : Nat, k ≤ l.length ∧ i = .int .i64 k ∧ Hid (asciiL l = asciiL (l.drop k))) (fun i => l.length - (intOf i).toNat)
 case atStart => exact ⟨0, Nat.zero_le _, rfl, Lib.hid rfl⟩
 case round =>
  obtain ⟨k, hk, rfl, HI⟩ := hrel
  by_cases hlt : k < l.length
  ·by_cases hc : l[k].toNat < 128
   ·have HI' : Hid (asciiL l = asciiL (l.drop (k+1))) := Lib.hid (by rw [HI.out, List.drop_eq_getElem_cons hlt]; simp [asciiL, hc])
    go_wp2
    go_round
    case rel => exact ⟨k + 1, by omega, by go_num, HI'⟩
    case measure => simp [intOf]; omega
   ·go_wp2
    go_ret
    exact ⟨retb (by rw [HI.out, List.drop_eq_getElem_cons hlt]; simp [asciiL, hc]), rfl⟩
  ·go_wp2
   go_ret
   exact ⟨retb (by rw [HI.out, List.drop_eq_nil_of_le (by omega)]; simp [asciiL]), rfl⟩
open Go.RowKit
def blankR (r : Int) : Prop := (9 ≤ r ∧ r ≤ 13) ∨ r = 0x85 ∨ r = 0xA0 ∨ r = 0x1680 ∨ (0x2000 ≤ r ∧ r ≤ 0x200A) ∨ r = 0x2028 ∨ r = 0x2029 ∨ r = 0x202F ∨ r = 0x205F ∨ r = 0x3000
instance (r : Int) : Decidable (blankR r) := by unfold blankR; infer_instance
def goesR (r : Int) : Prop := (0 ≤ r ∧ r < 32) ∨ (127 ≤ r ∧ r ≤ 0x9F) ∨ r = 0xAD ∨ r = 0x34F ∨ r = 0x1806 ∨ (0x180B ≤ r ∧ r ≤ 0x180E) ∨ (0x200B ≤ r ∧ r ≤ 0x200F) ∨ (0x202A ≤ r ∧ r ≤ 0x202E) ∨ (0x2060 ≤ r ∧ r ≤ 0x206F) ∨ (0xFE00 ≤ r ∧ r ≤ 0xFE0F) ∨ r = 0xFEFF ∨ (0xFFF9 ≤ r ∧ r ≤ 0xFFFC)
instance (r : Int) : Decidable (goesR r) := by unfold goesR; infer_instance
def refR (r : Int) : Prop := r < 0 ∨ (0xD800 ≤ r ∧ r ≤ 0xF8FF) ∨ (0xFFFD ≤ r ∧ r ≤ 0xFFFF) ∨ 0xF0000 ≤ r
instance (r : Int) : Decidable (refR r) := by unfold refR; infer_instance
def blankB (r : Int) : Bool := decide (blankR r)
def goesB (r : Int) : Bool := decide (goesR r)
def refB (r : Int) : Bool := decide (refR r)
set_option maxRecDepth 100000 in
theorem isBlank_c (r : Int) (w : World) :
  Calls Tryz.prog 192 #[.int .i32 r] w fun e w' => e = .returned (.bool (blankB r)) ∧ w = w' := by
 go_enter Tryz.func192, Tryz.ntmps192
 go_wp2
 all_goals (go_ret; refine ⟨retb ?_, rfl⟩; unfold blankB)
 all_goals (try simp only [beq_iff_eq, beq_eq_false_iff_ne, ne_eq] at *)
 all_goals (first | (refine (decide_eq_true ?_).symm; unfold blankR; omega) | (refine (decide_eq_false ?_).symm; unfold blankR; omega))
set_option maxRecDepth 100000 in
theorem goes_c (r : Int) (w : World) :
  Calls Tryz.prog 193 #[.int .i32 r] w fun e w' => e = .returned (.bool (goesB r)) ∧ w = w' := by
 go_enter Tryz.func193, Tryz.ntmps193
 go_wp2
 all_goals (go_ret; refine ⟨retb ?_, rfl⟩; unfold goesB)
 all_goals (try simp only [beq_iff_eq, beq_eq_false_iff_ne, ne_eq] at *)
 all_goals (first | (refine (decide_eq_true ?_).symm; unfold goesR; omega) | (refine (decide_eq_false ?_).symm; unfold goesR; omega))
set_option maxRecDepth 100000 in
theorem isRefused_c (r : Int) (w : World) :
  Calls Tryz.prog 194 #[.int .i32 r] w fun e w' => e = .returned (.bool (refB r)) ∧ w = w' := by
 go_enter Tryz.func194, Tryz.ntmps194
 go_wp2
 all_goals (go_ret; refine ⟨retb ?_, rfl⟩; unfold refB)
 all_goals (rw [Bool.eq_iff_iff]; simp only [Bool.or_eq_true, Bool.and_eq_true, decide_eq_true_eq, Bool.false_eq_true, Bool.true_eq_false, iff_true, false_iff, true_iff]; unfold refR; omega)
def mapR (r : Int) : Int × Bool × Bool := if blankR r then (32, true, false) else if goesR r then (0, false, false) else if refR r then (0, false, true) else (r, true, false)
set_option maxRecDepth 100000 in
theorem Map_c (r : Int) (w : World) :
  Calls Tryz.prog 168 #[.int .i32 r] w fun e w' => e = .returned (.tuple #[.int .i32 (mapR r).1, .bool (mapR r).2.1, .bool (mapR r).2.2]) ∧ w = w' := by
 cases h1 : blankB r <;> cases h2 : goesB r <;> cases h3 : refB r
 all_goals
  go_enter Tryz.func168, Tryz.ntmps168
  go_wp2_with (first | (go_at_call 192; refine (isBlank_c _ _).mono ?_; rintro e w' ⟨rfl, rfl⟩; rw [h1]) | (go_at_call 193; refine (goes_c _ _).mono ?_; rintro e w' ⟨rfl, rfl⟩; rw [h2]) | (go_at_call 194; refine (isRefused_c _ _).mono ?_; rintro e w' ⟨rfl, rfl⟩; rw [h3]))
  go_ret3
  refine ⟨?_, rfl⟩
  simp only [blankB, goesB, refB, decide_eq_true_eq, decide_eq_false_iff_not] at h1 h2 h3
  simp [mapR, h1, h2, h3]
def foldR (r : Int) : Int :=
 if (65 ≤ r ∧ r ≤ 90) ∨ (0xC0 ≤ r ∧ r ≤ 0xDE ∧ r ≠ 0xD7) ∨ (0x391 ≤ r ∧ r ≤ 0x3A9 ∧ r ≠ 0x3A2) ∨ (0x410 ≤ r ∧ r ≤ 0x42F) then r + 32
 else if 0x400 ≤ r ∧ r ≤ 0x40F then r + 80
 else if r = 0x1E9E then 0xDF
 else if ((0x100 ≤ r ∧ r ≤ 0x137) ∨ (0x14A ≤ r ∧ r ≤ 0x177)) ∧ r % 2 = 0 then r + 1
 else r
set_option maxRecDepth 100000 in
theorem Fold_c (r : Int) (w : World) (h0 : 0 ≤ r) (h1 : r ≤ 0x10FFFF) :
  Calls Tryz.prog 169 #[.int .i32 r] w fun e w' => e = .returned (.int .i32 (foldR r)) ∧ w = w' := by
 go_enter Tryz.func169, Tryz.ntmps169
 go_wp2
 all_goals (go_ret; refine ⟨reti ?_, rfl⟩)
 all_goals (try simp only [beq_iff_eq, beq_eq_false_iff_ne, bne_iff_ne, bne_eq_false_iff_eq, ne_eq] at *)
 all_goals (unfold foldR; repeat' split)
 all_goals omega
end Go.Proofs.YtconnibnpckadaaGreatDoor
