import Derived.Test.YtnnopncgpcbjaaaGreatDoorWve7
set_option linter.all false
set_option maxHeartbeats 8000000
namespace Go.Proofs.YtnnopncgpcbjaaaGreatDoor
open Go.RowKit

set_option maxRecDepth 100000 in
theorem who_main_b (who key name W1 K1 N1 : List UInt8) (kind : Int) (w : World) (hw : Env w) (hl : who.length + key.length + name.length ≤ 1000) (h0 : 0 ≤ kind) (h6 : kind ≤ 6) (hkc : kind = 3 ∨ kind = 4) (hk1 : keyS baseL who = (0, W1)) (hk2 : keyS baseL key = (0, K1)) (hk3 : keyS baseL name = (0, N1)) :
  Calls Tryz.prog 8 #[.string ⟨who.toArray⟩, .string ⟨key.toArray⟩, .string ⟨name.toArray⟩, .int .i64 kind] w fun e w' => e = .returned (.bool true) ∧ Below w.heap.size w w' := by
 have HBa := Lib.hid (base_c16 w hw)
 have HAl := Lib.hid (fun (W : World) (h : Below w.heap.size w W) => alive_c16 W (hw.keep h))
 have HK : Hid (∀ (x : List UInt8) (s : Nat) (ps : List Nat) (W : World), Below w.heap.size w W → SchAt W s ps baseL → Calls Tryz.prog 30 #[.pointer (some ⟨s, 0, none⟩), .string ⟨x.toArray⟩] W fun e w' => e = .returned (.tuple #[.string ⟨(keyS baseL x).2.toArray⟩, .int .i64 (keyS baseL x).1]) ∧ Below W.heap.size W w') := Lib.hid fun x s ps W h hS => Key_c s ps baseL base_sound x W (hw.keep h) hS
 have HK1 := Lib.hid (HK.out who)
 have HK2 := Lib.hid (HK.out key)
 have HK3 := Lib.hid (HK.out name)
 rw [hk1] at HK1
 rw [hk2] at HK2
 rw [hk3] at HK3
 have hname : name.length ≤ 1000 := by omega
 have hlaw := who_law hk1 hk2 hk3 h0 h6 hname [99, 110]
 have HLv : Hid (∀ (W : World) (s : Nat) (ps : List Nat) (vr vg : Value), Below w.heap.size w W → SchAt W s ps baseL → RulesA W vr [whoRule kind name] → Texts W vg [K1] → Calls Tryz.prog 28 #[.pointer (some ⟨s, 0, none⟩), vr, .string ⟨W1.toArray⟩, vg, .string ⟨K1.toArray⟩, .string ⟨#[99, 110]⟩] W fun e w' => e = .returned (.int .i64 (if whoWant W1 K1 N1 kind then 6 else 0)) ∧ Below W.heap.size W w') := Lib.hid fun W s ps vr vg h hS hr hT => by
  have := Level_c s ps baseL base_sound [whoRule kind name] vr W1 [K1] vg K1 [99, 110] W (hw.keep h) hS hr (by simp) (fun r hr => by
   rw [List.mem_singleton.1 hr]
   refine ⟨by simp [whoRule], by simp [whoRule], by simp [whoRule, joinL], by simp [whoRule], fun g hg => ?_⟩
   rw [List.mem_singleton.1 hg]
   show (if namedB kind then name else []).length ≤ 2000000
   split
   ·omega
   ·simp) hT (by simp) (by decide)
  rw [hlaw] at this
  exact this
 have HU := Lib.hid (fun (sv : Value) (W : World) (h : Below w.heap.size w W) => Under_c sv W1 N1 W (hw.keep h))
 have hget := ba_get
 have hext := ba_ext
 clear hw HK hlaw hk1 hk2 hk3
 simp only at HK1 HK2 HK3
 obtain ⟨b, hb⟩ : ∃ b, whoWant W1 K1 N1 kind = b := ⟨_, rfl⟩
 rw [hb] at HLv
 rcases hkc with rfl | rfl
 ·have HB := Lib.hid hb
  clear hb
  go_enter Tryz.func8, Tryz.ntmps8
  go_upto_region 12 with (first
   | (go_at_call 27; refine HBa.out.mono ?_; rintro e w1 ⟨s, ps, rfl, hb1, hS1⟩)
   | (go_at_call 30; (with_reducible refine (HK1.out s ps _ hb1 hS1).mono ?_); rintro e w2 ⟨rfl, hb2⟩; have hB2 := hb1.trans (hb2.mono hb1.size); have hS2 := hS1.below hb2)
   | (go_at_call 30; (with_reducible refine (HK2.out s ps _ hB2 hS2).mono ?_); rintro e w3 ⟨rfl, hb3⟩; have hB3 := hB2.trans (hb3.mono hB2.size); have hS3 := hS2.below hb3)
   | (go_at_call 30; (with_reducible refine (HK3.out s ps _ hB3 hS3).mono ?_); rintro e w4 ⟨rfl, hb4⟩; have hB4 := hB3.trans (hb4.mono hB3.size); have hS4 := hS3.below hb4))
  obtain ⟨hWb, hWr, hWt⟩ := who_world w4 3 name ([] : List UInt8) K1 rfl
  unfold whoWorld at hWb hWr hWt
  have hBW := hB4.trans (hWb.mono hB4.size)
  have hSW := hS4.below hWb
  clear HBa HK1 HK2 HK3
  cases b with
  | false =>
   cases hWe : (W1 == []) with
   | false =>
    have hWn : (W1 != []) = true := by rw [bne, hWe]; rfl
    have HWx := Lib.hid (show W1 ≠ [] from by intro h; rw [h] at hWe; cases hWe)
    have hbe := HB.out
    unfold whoWant at hbe
    go_upto_region 14 with (first
     | (go_at_call 28; refine (HLv.out _ s ps _ _ hBW hSW hWr hWt).mono ?_; rintro e w5 ⟨rfl, hb5⟩; have hB5 := hBW.trans (hb5.mono hBW.size))
     | (go_at_call 31; (with_reducible refine (HU.out _ _ hB5).mono ?_); rintro e w6 ⟨rfl, hb6⟩; have hB6 := hB5.trans (hb6.mono hB5.size)))
    go_wp2_with (go_at_call 20; refine (HAl.out _ (hB6.alloc hB6.size _)).mono ?_; rintro e w8 ⟨rfl, hb8⟩; have hq := Bk.below (Bk.new _ _ _) hb8; have qk := hq.cell 3; simp only [List.getElem?_toArray, List.getElem?_cons_zero, List.getElem?_cons_succ] at qk)
    all_goals
     go_ret
     refine ⟨?_, (hB6.alloc hB6.size _).trans (hb8.mono (hB6.alloc hB6.size _).size)⟩
     refine congrArg (fun z => Ending.returned (Value.bool z)) (?_ : _ = true)
     have hWx := HWx.out
     first
      | (simp [hWx] at hbe ⊢; done)
      | (simp [hWx] at hbe ⊢; exact hbe)
      | (simp [hWx] at hbe; done)
      | rfl
      | (simp_all; done)
   | true =>
    obtain rfl : W1 = [] := by simpa using hWe
    have hbe := HB.out
    unfold whoWant at hbe
    go_upto_region 14 with (first
     | (go_at_call 28; refine (HLv.out _ s ps _ _ hBW hSW hWr hWt).mono ?_; rintro e w5 ⟨rfl, hb5⟩; have hB5 := hBW.trans (hb5.mono hBW.size))
     | (go_at_call 31; (with_reducible refine (HU.out _ _ hB5).mono ?_); rintro e w6 ⟨rfl, hb6⟩; have hB6 := hB5.trans (hb6.mono hB5.size)))
    go_wp2_with (go_at_call 20; refine (HAl.out _ (hB5.alloc hB5.size _)).mono ?_; rintro e w8 ⟨rfl, hb8⟩; have hq := Bk.below (Bk.new _ _ _) hb8; have qk := hq.cell 3; simp only [List.getElem?_toArray, List.getElem?_cons_zero, List.getElem?_cons_succ] at qk)
    all_goals
     go_ret
     refine ⟨?_, (hB5.alloc hB5.size _).trans (hb8.mono (hB5.alloc hB5.size _).size)⟩
     refine congrArg (fun z => Ending.returned (Value.bool z)) (?_ : _ = true)
     first
      | (simp  at hbe ⊢; done)
      | (simp  at hbe ⊢; exact hbe)
      | (simp  at hbe; done)
      | rfl
      | (simp_all; done)
  | true =>
   cases hWe : (W1 == []) with
   | false =>
    have hWn : (W1 != []) = true := by rw [bne, hWe]; rfl
    have HWx := Lib.hid (show W1 ≠ [] from by intro h; rw [h] at hWe; cases hWe)
    have hbe := HB.out
    unfold whoWant at hbe
    go_upto_region 14 with (first
     | (go_at_call 28; refine (HLv.out _ s ps _ _ hBW hSW hWr hWt).mono ?_; rintro e w5 ⟨rfl, hb5⟩; have hB5 := hBW.trans (hb5.mono hBW.size))
     | (go_at_call 31; (with_reducible refine (HU.out _ _ hB5).mono ?_); rintro e w6 ⟨rfl, hb6⟩; have hB6 := hB5.trans (hb6.mono hB5.size)))
    go_wp2_with (go_at_call 20; refine (HAl.out _ (hB6.alloc hB6.size _)).mono ?_; rintro e w8 ⟨rfl, hb8⟩; have hq := Bk.below (Bk.new _ _ _) hb8; have qk := hq.cell 3; simp only [List.getElem?_toArray, List.getElem?_cons_zero, List.getElem?_cons_succ] at qk)
    all_goals
     go_ret
     refine ⟨?_, (hB6.alloc hB6.size _).trans (hb8.mono (hB6.alloc hB6.size _).size)⟩
     refine congrArg (fun z => Ending.returned (Value.bool z)) (?_ : _ = true)
     have hWx := HWx.out
     first
      | (simp [hWx] at hbe ⊢; done)
      | (simp [hWx] at hbe ⊢; exact hbe)
      | (simp [hWx] at hbe; done)
      | rfl
      | (simp_all; done)
   | true =>
    obtain rfl : W1 = [] := by simpa using hWe
    have hbe := HB.out
    unfold whoWant at hbe
    go_upto_region 14 with (first
     | (go_at_call 28; refine (HLv.out _ s ps _ _ hBW hSW hWr hWt).mono ?_; rintro e w5 ⟨rfl, hb5⟩; have hB5 := hBW.trans (hb5.mono hBW.size))
     | (go_at_call 31; (with_reducible refine (HU.out _ _ hB5).mono ?_); rintro e w6 ⟨rfl, hb6⟩; have hB6 := hB5.trans (hb6.mono hB5.size)))
    go_wp2_with (go_at_call 20; refine (HAl.out _ (hB5.alloc hB5.size _)).mono ?_; rintro e w8 ⟨rfl, hb8⟩; have hq := Bk.below (Bk.new _ _ _) hb8; have qk := hq.cell 3; simp only [List.getElem?_toArray, List.getElem?_cons_zero, List.getElem?_cons_succ] at qk)
    all_goals
     go_ret
     refine ⟨?_, (hB5.alloc hB5.size _).trans (hb8.mono (hB5.alloc hB5.size _).size)⟩
     refine congrArg (fun z => Ending.returned (Value.bool z)) (?_ : _ = true)
     first
      | (simp  at hbe ⊢; done)
      | (simp  at hbe ⊢; exact hbe)
      | (simp  at hbe; done)
      | rfl
      | (simp_all; done)
 ·have HB := Lib.hid hb
  clear hb
  go_enter Tryz.func8, Tryz.ntmps8
  go_upto_region 12 with (first
   | (go_at_call 27; refine HBa.out.mono ?_; rintro e w1 ⟨s, ps, rfl, hb1, hS1⟩)
   | (go_at_call 30; (with_reducible refine (HK1.out s ps _ hb1 hS1).mono ?_); rintro e w2 ⟨rfl, hb2⟩; have hB2 := hb1.trans (hb2.mono hb1.size); have hS2 := hS1.below hb2)
   | (go_at_call 30; (with_reducible refine (HK2.out s ps _ hB2 hS2).mono ?_); rintro e w3 ⟨rfl, hb3⟩; have hB3 := hB2.trans (hb3.mono hB2.size); have hS3 := hS2.below hb3)
   | (go_at_call 30; (with_reducible refine (HK3.out s ps _ hB3 hS3).mono ?_); rintro e w4 ⟨rfl, hb4⟩; have hB4 := hB3.trans (hb4.mono hB3.size); have hS4 := hS3.below hb4))
  obtain ⟨hWb, hWr, hWt⟩ := who_world w4 4 name name K1 rfl
  unfold whoWorld at hWb hWr hWt
  have hBW := hB4.trans (hWb.mono hB4.size)
  have hSW := hS4.below hWb
  clear HBa HK1 HK2 HK3
  cases b with
  | false =>
   cases hWe : (W1 == []) with
   | false =>
    have hWn : (W1 != []) = true := by rw [bne, hWe]; rfl
    have HWx := Lib.hid (show W1 ≠ [] from by intro h; rw [h] at hWe; cases hWe)
    have hbe := HB.out
    unfold whoWant at hbe
    go_upto_region 14 with (first
     | (go_at_call 28; refine (HLv.out _ s ps _ _ hBW hSW hWr hWt).mono ?_; rintro e w5 ⟨rfl, hb5⟩; have hB5 := hBW.trans (hb5.mono hBW.size))
     | (go_at_call 31; (with_reducible refine (HU.out _ _ hB5).mono ?_); rintro e w6 ⟨rfl, hb6⟩; have hB6 := hB5.trans (hb6.mono hB5.size)))
    go_wp2_with (go_at_call 20; refine (HAl.out _ (hB6.alloc hB6.size _)).mono ?_; rintro e w8 ⟨rfl, hb8⟩; have hq := Bk.below (Bk.new _ _ _) hb8; have qk := hq.cell 4; simp only [List.getElem?_toArray, List.getElem?_cons_zero, List.getElem?_cons_succ] at qk)
    all_goals
     go_ret
     refine ⟨?_, (hB6.alloc hB6.size _).trans (hb8.mono (hB6.alloc hB6.size _).size)⟩
     refine congrArg (fun z => Ending.returned (Value.bool z)) (?_ : _ = true)
     have hWx := HWx.out
     first
      | (simp [hWx] at hbe ⊢; done)
      | (simp [hWx] at hbe ⊢; exact hbe)
      | (simp [hWx] at hbe; done)
      | rfl
      | (simp_all; done)
   | true =>
    obtain rfl : W1 = [] := by simpa using hWe
    have hbe := HB.out
    unfold whoWant at hbe
    go_upto_region 14 with (first
     | (go_at_call 28; refine (HLv.out _ s ps _ _ hBW hSW hWr hWt).mono ?_; rintro e w5 ⟨rfl, hb5⟩; have hB5 := hBW.trans (hb5.mono hBW.size))
     | (go_at_call 31; (with_reducible refine (HU.out _ _ hB5).mono ?_); rintro e w6 ⟨rfl, hb6⟩; have hB6 := hB5.trans (hb6.mono hB5.size)))
    go_wp2_with (go_at_call 20; refine (HAl.out _ (hB5.alloc hB5.size _)).mono ?_; rintro e w8 ⟨rfl, hb8⟩; have hq := Bk.below (Bk.new _ _ _) hb8; have qk := hq.cell 4; simp only [List.getElem?_toArray, List.getElem?_cons_zero, List.getElem?_cons_succ] at qk)
    all_goals
     go_ret
     refine ⟨?_, (hB5.alloc hB5.size _).trans (hb8.mono (hB5.alloc hB5.size _).size)⟩
     refine congrArg (fun z => Ending.returned (Value.bool z)) (?_ : _ = true)
     first
      | (simp  at hbe ⊢; done)
      | (simp  at hbe ⊢; exact hbe)
      | (simp  at hbe; done)
      | rfl
      | (simp_all; done)
  | true =>
   cases hWe : (W1 == []) with
   | false =>
    have hWn : (W1 != []) = true := by rw [bne, hWe]; rfl
    have HWx := Lib.hid (show W1 ≠ [] from by intro h; rw [h] at hWe; cases hWe)
    have hbe := HB.out
    unfold whoWant at hbe
    go_upto_region 14 with (first
     | (go_at_call 28; refine (HLv.out _ s ps _ _ hBW hSW hWr hWt).mono ?_; rintro e w5 ⟨rfl, hb5⟩; have hB5 := hBW.trans (hb5.mono hBW.size))
     | (go_at_call 31; (with_reducible refine (HU.out _ _ hB5).mono ?_); rintro e w6 ⟨rfl, hb6⟩; have hB6 := hB5.trans (hb6.mono hB5.size)))
    go_wp2_with (go_at_call 20; refine (HAl.out _ (hB6.alloc hB6.size _)).mono ?_; rintro e w8 ⟨rfl, hb8⟩; have hq := Bk.below (Bk.new _ _ _) hb8; have qk := hq.cell 4; simp only [List.getElem?_toArray, List.getElem?_cons_zero, List.getElem?_cons_succ] at qk)
    all_goals
     go_ret
     refine ⟨?_, (hB6.alloc hB6.size _).trans (hb8.mono (hB6.alloc hB6.size _).size)⟩
     refine congrArg (fun z => Ending.returned (Value.bool z)) (?_ : _ = true)
     have hWx := HWx.out
     first
      | (simp [hWx] at hbe ⊢; done)
      | (simp [hWx] at hbe ⊢; exact hbe)
      | (simp [hWx] at hbe; done)
      | rfl
      | (simp_all; done)
   | true =>
    obtain rfl : W1 = [] := by simpa using hWe
    have hbe := HB.out
    unfold whoWant at hbe
    go_upto_region 14 with (first
     | (go_at_call 28; refine (HLv.out _ s ps _ _ hBW hSW hWr hWt).mono ?_; rintro e w5 ⟨rfl, hb5⟩; have hB5 := hBW.trans (hb5.mono hBW.size))
     | (go_at_call 31; (with_reducible refine (HU.out _ _ hB5).mono ?_); rintro e w6 ⟨rfl, hb6⟩; have hB6 := hB5.trans (hb6.mono hB5.size)))
    go_wp2_with (go_at_call 20; refine (HAl.out _ (hB5.alloc hB5.size _)).mono ?_; rintro e w8 ⟨rfl, hb8⟩; have hq := Bk.below (Bk.new _ _ _) hb8; have qk := hq.cell 4; simp only [List.getElem?_toArray, List.getElem?_cons_zero, List.getElem?_cons_succ] at qk)
    all_goals
     go_ret
     refine ⟨?_, (hB5.alloc hB5.size _).trans (hb8.mono (hB5.alloc hB5.size _).size)⟩
     refine congrArg (fun z => Ending.returned (Value.bool z)) (?_ : _ = true)
     first
      | (simp  at hbe ⊢; done)
      | (simp  at hbe ⊢; exact hbe)
      | (simp  at hbe; done)
      | rfl
      | (simp_all; done)
end Go.Proofs.YtnnopncgpcbjaaaGreatDoor
