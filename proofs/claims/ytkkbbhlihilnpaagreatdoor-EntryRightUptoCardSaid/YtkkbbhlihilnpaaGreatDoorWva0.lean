import Derived.Test.YtkkbbhlihilnpaaGreatDoorProg
import Derived.WalkKit
import Derived.WalkSpells
import Derived.WalkLawsBesides
import Derived.Lib.Hide
set_option linter.all false
set_option maxHeartbeats 8000000
namespace Go.Proofs.YtkkbbhlihilnpaaGreatDoor
open Go.RowKit
def letB (c : Int) : Bool := decide (97 ≤ c) && decide (c ≤ 122) || decide (65 ≤ c) && decide (c ≤ 90)
def digB (c : Int) : Bool := decide (48 ≤ c) && decide (c ≤ 57)
def inTypeB (c : Int) : Bool := letB c || digB c || c == 45 || c == 46
theorem gsx {α : Type} : (∀ (l : List α) (i : Nat) (h : i < l.toArray.size), l.toArray[i] = l[i]'h) ∧ (∀ (a : α) (l : List α) (h : 0 < (a :: l).length), (a :: l)[0] = a) ∧
  (∀ (a : α) (l : List α) (i : Nat) (h : i + 1 < (a :: l).length), (a :: l)[i + 1] = l[i]'(Nat.lt_of_succ_lt_succ h)) ∧ (∀ (l : List α) (i : Nat) (a : α), l.toArray.setIfInBounds i a = (l.set i a).toArray) ∧
  (∀ (a b : α) (l : List α), (a :: l).set 0 b = b :: l) ∧ (∀ (a b : α) (l : List α) (n : Nat), (a :: l).set (n + 1) b = a :: l.set n b) :=
 ⟨fun _ _ _ => List.getElem_toArray .., fun _ _ _ => List.getElem_cons_zero .., fun _ _ _ _ => List.getElem_cons_succ .., fun _ _ _ => List.setIfInBounds_toArray .., fun _ _ _ => List.set_cons_zero, fun _ _ _ _ => List.set_cons_succ⟩
theorem retb {a b : Bool} (h : a = b) : Ending.returned (.bool a) = .returned (.bool b) := by rw [h]
theorem reti {k : IntKind} {a b : Int} (h : a = b) : Ending.returned (.int k a) = .returned (.int k b) := by rw [h]
theorem ba_get (l : List UInt8) (k : Nat) (h : k < (⟨l.toArray⟩ : ByteArray).size) : (⟨l.toArray⟩ : ByteArray)[k] = l[k]'(by simpa [ByteArray.size] using h) := rfl
theorem isLetter_c (c : Int) (w : World) :
  Calls Tryz.prog 136 #[.int .u8 c] w fun e w' => e = .returned (.bool (letB c)) ∧ w = w' := by
 go_enter Tryz.func136, Tryz.ntmps136
 go_wp2
 all_goals (go_ret; refine ⟨retb ?_, rfl⟩; unfold letB; rw [Bool.eq_iff_iff]; simp; omega)
theorem isDigit_c (c : Int) (w : World) :
  Calls Tryz.prog 204 #[.int .u8 c] w fun e w' => e = .returned (.bool (digB c)) ∧ w = w' := by
 go_enter Tryz.func204, Tryz.ntmps204
 go_wp2
 all_goals (go_ret; refine ⟨retb ?_, rfl⟩; unfold digB; rw [Bool.eq_iff_iff]; simp; omega)
theorem inType_c (c : Int) (w : World) :
  Calls Tryz.prog 138 #[.int .u8 c] w fun e w' => e = .returned (.bool (inTypeB c)) ∧ w = w' := by
 cases h1 : letB c <;> cases h2 : digB c
 all_goals
  go_enter Tryz.func138, Tryz.ntmps138
  go_wp2_with (first | (go_at_call 136; refine (isLetter_c _ _).mono ?_; rintro e w' ⟨rfl, rfl⟩; rw [h1]) | (go_at_call 204; refine (isDigit_c _ _).mono ?_; rintro e w' ⟨rfl, rfl⟩; rw [h2]))
  all_goals (go_ret; refine ⟨retb ?_, rfl⟩; unfold inTypeB; simp [*])
def digitV (c : Int) : Int := if 48 ≤ c ∧ c ≤ 57 then c - 48 else if 97 ≤ c ∧ c ≤ 102 then c - 87 else if 65 ≤ c ∧ c ≤ 70 then c - 55 else -1
theorem Digit_c (c : Int) (w : World) (h0 : 0 ≤ c) (h1 : c < 256) :
  Calls Tryz.prog 278 #[.int .u8 c] w fun e w' => e = .returned (.int .i64 (digitV c)) ∧ w = w' := by
 go_enter Tryz.func278, Tryz.ntmps278
 go_wp2
 all_goals (go_ret; refine ⟨reti ?_, rfl⟩; unfold digitV; repeat' split)
 all_goals (first | omega | (simp; omega))
def daysV (y m : Int) : Int := if m = 4 ∨ m = 6 ∨ m = 9 ∨ m = 11 then 30 else if m = 2 then (if y % 4 = 0 ∧ y % 100 ≠ 0 ∨ y % 400 = 0 then 29 else 28) else 31
theorem days_c (y m : Int) (w : World) (h0 : 0 ≤ y) (h1 : y < 10000) :
  Calls Tryz.prog 140 #[.int .i64 y, .int .i64 m] w fun e w' => e = .returned (.int .i64 (daysV y m)) ∧ w = w' := by
 go_enter Tryz.func140, Tryz.ntmps140
 go_wp2
 all_goals (go_ret; refine ⟨reti ?_, rfl⟩; unfold daysV)
 all_goals (simp only [beq_iff_eq, beq_eq_false_iff_ne, bne_iff_ne, bne_eq_false_iff_eq, ne_eq] at *)
 all_goals (repeat' split)
 all_goals omega
def asciiL : List UInt8 → Bool
 | [] => true
 | c :: r => decide (c.toNat < 128) && asciiL r
set_option maxRecDepth 10000 in
theorem isASCII_c (l : List UInt8) (w : World) (hl : l.length ≤ 1024) :
  Calls Tryz.prog 79 #[.string ⟨l.toArray⟩] w fun e w' => e = .returned (.bool (asciiL l)) ∧ w = w' := by
 have hget := ba_get
 go_enter Tryz.func79, Tryz.ntmps79
 go_wp2
 go_loop [6] (fun i => ∃ k : Nat, k ≤ l.length ∧ i = .int .i64 k ∧ Hid (asciiL l = asciiL (l.drop k))) (fun i => l.length - (intOf i).toNat)
 case atStart => exact ⟨0, Nat.zero_le _, rfl, Lib.hid rfl⟩
 case round =>
  obtain ⟨k, hk, rfl, HI⟩ := hrel
  by_cases hlt : k < l.length
  ·by_cases hc : l[k].toNat < 128
   ·have HI' : Hid (asciiL l = asciiL (l.drop (k+1))) := Lib.hid (by rw [HI.out, List.drop_eq_getElem_cons hlt]; simp [asciiL, hc])
    go_wp2
    go_round
    case rel => exact ⟨k + 1, by omega, by go_num, HI'⟩
    case measure => simp [intOf]; omega
   ·go_wp2
    go_ret
    exact ⟨retb (by rw [HI.out, List.drop_eq_getElem_cons hlt]; simp [asciiL, hc]), rfl⟩
  ·go_wp2
   go_ret
   exact ⟨retb (by rw [HI.out, List.drop_eq_nil_of_le (by omega)]; simp [asciiL]), rfl⟩
end Go.Proofs.YtkkbbhlihilnpaaGreatDoor
