import Derived.Test.YtkkbbhlihilnpaaGreatDoorWka
set_option linter.all false
set_option maxHeartbeats 8000000
set_option maxRecDepth 100000
namespace Go.Proofs.YtkkbbhlihilnpaaGreatDoor
open Go.RowKit
def wCn : List UInt8 := [99, 110]
def aliveE14 : Ent.EntryE := ⟨[99, 110, 61, 65], [⟨[99, 110], [[65]]⟩]⟩
def cn14 : AttrS := attrO baseL wCn
theorem cn14_c : attrC baseL wCn = 0 := by decide +kernel
theorem cn14_find : Ent.findE (schE baseL) aliveE14 wCn = [[65]] := by decide +kernel
theorem cn14_eq : normE cn14.eqr [65] = (0, [97]) := by decide +kernel
theorem cn14_sub : normE (baseR cn14.subs) [65] = (0, [97]) := by decide +kernel
theorem cn14_ne : cn14.subs ≠ [] := by decide +kernel
theorem cn14_name : smallL cn14.name = wCn := by decide +kernel
theorem cn14_len : cn14.name.length ≤ 1000 ∧ cn14.eqr.length ≤ 1000 ∧ cn14.subs.length ≤ 1000 := by decide +kernel
theorem cn14_grams : gramsT [] [94 :: ([97] ++ [36])] = [(94, 97, 36)] := by decide
theorem cn14_nd (X : List UInt8) : (rawK wCn X [(94, 97, 36)]).Nodup := by
 simp [rawK, keyP, keyE, keyG, wCn]
theorem cn14_sort (X : List UInt8) : (sortT (rawK wCn X [(94, 97, 36)])).toList = [101 :: 99 :: 110 :: 0 :: X, [112, 99, 110], [115, 99, 110, 0, 94, 97, 36]] := by
 refine sortT_eq (cn14_nd X) ?_ ?_
 ·simp [SS, cmpB, Lib.compareBytes]
 ·intro x
  simp [rawK, keyP, keyE, keyG, wCn]
  constructor
  ·rintro (h | h | h) <;> simp [h]
  ·rintro (h | h | h) <;> simp [h]
theorem may14_alive (X : List UInt8) : Key.mayP [⟨2, 0, [112, 99, 110]⟩] [101 :: 99 :: 110 :: 0 :: X, [112, 99, 110], [115, 99, 110, 0, 94, 97, 36]] = true := by
 have hv : Key.validB [⟨2, 0, [112, 99, 110]⟩] = true := by decide
 unfold Key.mayP
 rw [hv]
 simp [Key.eval]
theorem texts_one7' {W : World} {g : Nat} {x : List UInt8} (h : Bk W g 9 #[.string ⟨x.toArray⟩]) : TextsA W (.slice (some ⟨g, 0, none⟩) 1 1) [x] := by
 refine .inr ⟨⟨g, 0, none⟩, 1, rfl, Nat.le_refl _, fun j hj => ?_⟩
 have hj0 : j = 0 := by simpa using hj
 subst hj0
 exact h.cell 0
theorem alive14_rows (w : World) {W : World} (hW : W = (((w.alloc (.cells #[.string ⟨#[65]⟩] 9)).alloc (.cells #[.string ⟨#[99, 110]⟩, .slice (some ⟨w.heap.size, 0, none⟩) 1 1] 46)).alloc (.cells #[.string ⟨#[99, 110, 61, 65]⟩, .slice (some ⟨w.heap.size + 1, 0, none⟩) 1 1] 37)).alloc (.cells #[.string ⟨#[99, 110]⟩, .bool true, .bool true, .bool true] 66)) :
  Below w.heap.size w W ∧ AttrsA W (.slice (some ⟨w.heap.size + 1, 0, none⟩) 1 1) aliveE14.attrs ∧ Bk W (w.heap.size + 1 + 1 + 1) 66 #[.string ⟨#[99, 110]⟩, .bool true, .bool true, .bool true] ∧ W.cell? ⟨w.heap.size + 1 + 1, 0, none⟩ = some (.string ⟨#[99, 110, 61, 65]⟩) ∧ W.cell? ⟨w.heap.size + 1 + 1, 1, none⟩ = some (.slice (some ⟨w.heap.size + 1, 0, none⟩) 1 1) := by
 have b1 := bel_one w (.cells #[.string ⟨#[65]⟩] 9)
 have k1 := Bk.new w 9 #[.string ⟨#[65]⟩]
 have s1 : (w.alloc (.cells #[.string ⟨#[65]⟩] 9)).heap.size = w.heap.size + 1 := by simp
 generalize w.alloc (.cells #[.string ⟨#[65]⟩] 9) = W1 at *
 have b2 := bel_one W1 (.cells #[.string ⟨#[99, 110]⟩, .slice (some ⟨w.heap.size, 0, none⟩) 1 1] 46)
 have k2 := Bk.new W1 46 #[.string ⟨#[99, 110]⟩, .slice (some ⟨w.heap.size, 0, none⟩) 1 1]
 have s2 : (W1.alloc (.cells #[.string ⟨#[99, 110]⟩, .slice (some ⟨w.heap.size, 0, none⟩) 1 1] 46)).heap.size = W1.heap.size + 1 := by simp
 generalize W1.alloc (.cells #[.string ⟨#[99, 110]⟩, .slice (some ⟨w.heap.size, 0, none⟩) 1 1] 46) = W2 at *
 have b3 := bel_one W2 (.cells #[.string ⟨#[99, 110, 61, 65]⟩, .slice (some ⟨w.heap.size + 1, 0, none⟩) 1 1] 37)
 have k3 := Bk.new W2 37 #[.string ⟨#[99, 110, 61, 65]⟩, .slice (some ⟨w.heap.size + 1, 0, none⟩) 1 1]
 have s3 : (W2.alloc (.cells #[.string ⟨#[99, 110, 61, 65]⟩, .slice (some ⟨w.heap.size + 1, 0, none⟩) 1 1] 37)).heap.size = W2.heap.size + 1 := by simp
 generalize W2.alloc (.cells #[.string ⟨#[99, 110, 61, 65]⟩, .slice (some ⟨w.heap.size + 1, 0, none⟩) 1 1] 37) = W3 at *
 have b4 := bel_one W3 (.cells #[.string ⟨#[99, 110]⟩, .bool true, .bool true, .bool true] 66)
 have k4 := Bk.new W3 66 #[.string ⟨#[99, 110]⟩, .bool true, .bool true, .bool true]
 rw [← hW] at b4 k4
 rw [s3, s2, s1] at k4
 rw [s2, s1] at k3
 rw [s1] at k2
 have t1 := texts_one7' (x := [65]) (((k1.below b2).below b3).below b4)
 have k2' := (k2.below b3).below b4
 have k3' := k3.below b4
 refine ⟨b1.trans ((b2.trans ((b3.trans (b4.mono b3.size)).mono b2.size)).mono b1.size), ⟨[(⟨[99, 110], [[65]]⟩, .slice (some ⟨w.heap.size, 0, none⟩) 1 1)], rfl, ⟨_, 1, rfl, by simp, fun h => (by cases h), fun j hj => ⟨w.heap.size + 1, 0, rfl, fun k u hu => ?_⟩⟩, fun q hq => ?_⟩, k4, k3'.cell 0, k3'.cell 1⟩
 ·have h0 : j = 0 := by simpa using hj
  subst h0
  match k, hu with
  | 0, hu => cases hu; exact k2'.cell 0
  | 1, hu => cases hu; exact k2'.cell 1
  | k + 2, hu => simp [aqCells] at hu
 ·rw [List.mem_singleton.1 hq]
  exact t1
set_option maxRecDepth 100000 in
theorem alive14_c (w : World) (hw : Env w) : Calls Tryz.prog 8 #[] w fun e w' => e = .returned (.bool true) ∧ Below w.heap.size w w' := by
 have HBs := Lib.hid (Base_c w)
 have HNw : Hid (∀ (va vb : Value) (W : World), Below w.heap.size w W → Texts W va baseA → Texts W vb baseC → Calls Tryz.prog 28 #[va, vb] W fun e w' => Below W.heap.size W w' ∧ ∃ s ps, e = .returned (.tuple #[.pointer (some ⟨s, 0, none⟩), .int .i64 0, .int .i64 0]) ∧ SchAt w' s ps baseL) := Lib.hid fun va vb W h h1 h2 => by
  have := New_c va vb baseA baseC W (hw.keep h) h1 h2 (by rw [baseA_len, baseC_len]; omega) (fun x hx => Nat.le_trans (base_short x hx) (by decide))
  rw [base_new] at this
  exact this
 have HO : Hid (∀ (W : World) (s bi : Nat) (ps : List Nat) (va : Value), Below w.heap.size w W → SchAt W s ps baseL → AttrsA W va aliveE14.attrs → Bk W bi 66 #[.string ⟨#[99, 110]⟩, .bool true, .bool true, .bool true] → Calls Tryz.prog 29 #[.pointer (some ⟨s, 0, none⟩), .slice (some ⟨bi, 0, none⟩) 1 1, .agg #[.string ⟨#[99, 110, 61, 65]⟩, va]] W fun e w' => ∃ X g c, e = .returned (.slice (some ⟨g, 0, none⟩) 3 c) ∧ w'.cell? ⟨g, 1, none⟩ = some (.string ⟨#[112, 99, 110]⟩) ∧ w'.cell? ⟨g, 2, none⟩ = some (.string ⟨#[115, 99, 110, 0, 94, 97, 36]⟩) ∧ TextsA w' (.slice (some ⟨g, 0, none⟩) 3 c) [101 :: 99 :: 110 :: 0 :: X, [112, 99, 110], [115, 99, 110, 0, 94, 97, 36]] ∧ Below W.heap.size W w') := Lib.hid fun W s bi ps va h hS hv hI => by
  have := of1_c s ps baseL base_sound cn14 wCn [65] aliveE14 va bi W (hw.keep h) hS hv hI rfl cn14_c cn14_find [97] [97] wCn [(94, 97, 36)] cn14_eq cn14_sub cn14_ne cn14_name cn14_grams (by decide) (by decide) (by decide) (by decide) (Nat.le_trans cn14_len.1 (by decide)) (Nat.le_trans cn14_len.2.1 (by decide)) (Nat.le_trans cn14_len.2.2 (by decide)) (by decide) (by decide) (by decide) cn14_nd
  refine this.mono ?_
  rintro e w' ⟨X, v, rfl, hO, hb⟩
  rw [cn14_sort X] at hO
  rcases hO.textsA with ⟨h0, _⟩ | ⟨a, c, rfl, hc, hx⟩
  ·cases h0
  ·rcases hO.row with ⟨h0, _⟩ | ⟨g, c', he, _⟩
   ·cases h0
   ·cases he
    have h1 := hx 1 (by simp)
    have h2 := hx 2 (by simp)
    exact ⟨X, g, c, rfl, by simpa [Addr.add] using h1, by simpa [Addr.add] using h2, hO.textsA, hb⟩
 have HM : Hid (∀ (W : World) (X : List UInt8) (v vh : Value), PlanS W v [⟨2, 0, [112, 99, 110]⟩] → TextsA W vh [101 :: 99 :: 110 :: 0 :: X, [112, 99, 110], [115, 99, 110, 0, 94, 97, 36]] → Calls Tryz.prog 12 #[v, vh] W fun e w' => e = .returned (.bool true) ∧ Below W.heap.size W w') := Lib.hid fun W X v vh h1 h2 => by
  have := mayKeys_c _ _ v vh W h1 (by decide) h2 (by simp)
  rw [may14_alive X] at this
  exact this
 clear hw
 go_enter Tryz.func8, Tryz.ntmps8
 go_wp2_with (first
  | (go_at_call 27; refine HBs.out.mono ?_; rintro e w1 ⟨rfl, hb1, hA1, hC1⟩)
  | (go_at_call 28; refine (HNw.out _ _ _ hb1 hA1.texts hC1.texts).mono ?_; rintro e w2 ⟨hb2, s, ps, rfl, hS2⟩; have hB2 := hb1.trans (hb2.mono hb1.size); obtain ⟨hb3, hR3, hI3, e0, e1⟩ := alive14_rows w2 rfl; have hB3 := hB2.trans (hb3.mono hB2.size); have hS3 := hS2.below hb3)
  | (go_at_call 29; (with_reducible refine (HO.out _ s _ ps _ hB3 hS3 hR3 hI3).mono ?_); rintro e w4 ⟨X, g, c, rfl, g1, g2, hT4, hb4⟩; have hB4 := hB3.trans (hb4.mono hB3.size); have hba := bel_one w4 (.cells #[.int .i64 2, .int .i64 0, .string ⟨#[112, 99, 110]⟩] 26); have hka := Bk.new w4 26 #[.int .i64 2, .int .i64 0, .string ⟨#[112, 99, 110]⟩]; have hT5 := hT4.below hba; have hPl : PlanS (w4.alloc (.cells #[.int .i64 2, .int .i64 0, .string ⟨#[112, 99, 110]⟩] 26)) (.slice (some ⟨w4.heap.size, 0, none⟩) 1 1) [⟨2, 0, [112, 99, 110]⟩] := ⟨_, 1, rfl, Nat.le_refl _, fun j hj => (by have h0 : j = 0 := (by simpa using hj); subst h0; exact ⟨_, 0, rfl, hka.cell 0, hka.cell 1, hka.cell 2⟩)⟩)
  | (go_at_call 12; (with_reducible refine (HM.out _ X _ _ hPl hT5).mono ?_); rintro e w6 ⟨rfl, hb6⟩))
 all_goals
  go_ret
  exact ⟨rfl, hB4.trans ((hba.trans (hb6.mono hba.size)).mono hB4.size)⟩
end Go.Proofs.YtkkbbhlihilnpaaGreatDoor
