import Derived.Test.YtbjmpmgiigombaaGreatDoorWvd6
set_option linter.all false
set_option maxHeartbeats 8000000
namespace Go.Proofs.YtbjmpmgiigombaaGreatDoor
open Go.RowKit
theorem esc_len (s : List UInt8) (c : UInt8) (new : List UInt8) (h : new.length ≤ 2) : (s.flatMap (fun x => if x == c then new else [x])).length ≤ 2 * s.length := by
 induction s with
 | nil => simp
 | cons x s ih =>
  rw [List.flatMap_cons, List.length_append, List.length_cons]
  have : (if x == c then new else [x]).length ≤ 2 := by
   split
   ·exact h
   ·simp
  omega
set_option maxRecDepth 10000 in
theorem quoted_c (s : List UInt8) (w : World) (hw : Env w) (hl : s.length ≤ 2000000) :
  Calls Tryz.prog 109 #[.string ⟨s.toArray⟩] w fun e w' => e = .returned (.string ⟨(quoteA s).toArray⟩) ∧ Below w.heap.size w w' := by
 have hq := quote_repl s
 have hql := quote_len s
 have e1 := replAll_one 92 [92, 92] (by decide) s
 obtain ⟨r1, hr1⟩ : ∃ r, Lib.replaceAll s [92] [92, 92] = r := ⟨_, rfl⟩
 have h1 : r1.length ≤ 2 * s.length := by rw [← hr1, e1]; exact esc_len s 92 _ (by decide)
 rw [hr1] at hq
 obtain ⟨r2, hr2⟩ : ∃ r, Lib.replaceAll r1 [34] [92, 34] = r := ⟨_, rfl⟩
 rw [hr2] at hq
 have h2 : r2.length ≤ 4000000 := by
  have : (34 :: r2 ++ [34]).length = (quoteA s).length := by rw [hq]
  simp at this
  omega
 have HR1 : Hid (Calls Tryz.prog 178 #[.string ⟨s.toArray⟩, .string ⟨#[92]⟩, .string ⟨#[92, 92]⟩] w fun e w' => e = .returned (.string ⟨r1.toArray⟩) ∧ Below w.heap.size w w') := Lib.hid (by
  obtain ⟨_, m, hm⟩ := id hw
  have hc := repl_len s 92 []
  have := Tryz.strings_ReplaceAll ⟨s.toArray⟩ ⟨#[92]⟩ ⟨#[92, 92]⟩ m w (by show s.length < _; omega) hm (by decide) (by show s.length + _ * 2 ≤ _; omega)
  rw [← hr1]
  exact this)
 have HR2 : Hid (∀ W : World, Below w.heap.size w W → Calls Tryz.prog 178 #[.string ⟨r1.toArray⟩, .string ⟨#[34]⟩, .string ⟨#[92, 34]⟩] W fun e w' => e = .returned (.string ⟨r2.toArray⟩) ∧ Below W.heap.size W w') := Lib.hid fun W hW => by
  obtain ⟨_, m, hm⟩ := hw.keep hW
  have hc := repl_len r1 34 []
  have := Tryz.strings_ReplaceAll ⟨r1.toArray⟩ ⟨#[34]⟩ ⟨#[92, 34]⟩ m W (by show r1.length < _; omega) hm (by decide) (by show r1.length + _ * 2 ≤ _; omega)
  rw [← hr2]
  exact this
 rw [← hq]
 clear hq hql e1 hr1 hr2 hw
 go_enter Tryz.func109, Tryz.ntmps109
 go_wp2_with (first | (go_at_call 178; (with_reducible refine HR1.out.mono ?_); rintro e w1 ⟨rfl, hb1⟩) | (go_at_call 178; (with_reducible refine (HR2.out _ hb1).mono ?_); rintro e w2 ⟨rfl, hb2⟩))
 go_ret
 exact ⟨rfl, hb1.trans (hb2.mono hb1.size)⟩
theorem said2_c (t : List UInt8) (w : World) (hw : Env w) (hl : t.length ≤ 1099511627776) :
  Calls Tryz.prog 177 #[.string ⟨t.toArray⟩] w fun e w' => e = .returned (.bool (!isTypeL t)) ∧ Below w.heap.size w w' := by
 have HT := Lib.hid (IsType_c t w hw (by omega))
 clear hw
 generalize isTypeL t = b at HT ⊢
 go_enter Tryz.func177, Tryz.ntmps177
 go_wp2_with (go_at_call 27; refine HT.out.mono ?_; rintro e w1 ⟨rfl, hb1⟩)
 go_ret
 exact ⟨rfl, hb1⟩
set_option maxRecDepth 100000 in
theorem said1_c (g : GrantS) (w : World) :
  Calls Tryz.prog 175 #[.agg #[.int .i64 g.who, .string ⟨g.name.toArray⟩, .int .i64 g.level]] w fun e w' => e = .returned (.bool (badGrant g)) ∧ Below w.heap.size w w' := by
 have hbad : badGrant g = (!(decide (0 ≤ g.who) && decide (g.who < (whoWs.length : Nat))) || !(decide (0 ≤ g.level) && decide (g.level < (levelWs.length : Nat))) || (!namedB g.who && g.name != [])) := rfl
 rw [hbad]
 clear hbad
 obtain ⟨who, name, level⟩ := g
 simp only
 obtain ⟨b1, hb1⟩ : ∃ b, (decide (0 ≤ who) && decide (who < (whoWs.length : Nat))) = b := ⟨_, rfl⟩
 obtain ⟨b2, hb2⟩ : ∃ b, (decide (0 ≤ level) && decide (level < (levelWs.length : Nat))) = b := ⟨_, rfl⟩
 obtain ⟨b3, hb3⟩ : ∃ b, namedB who = b := ⟨_, rfl⟩
 rw [hb1, hb2, hb3]
 have HIN := Lib.hid hb1
 have HIL := Lib.hid hb2
 have HNM := Lib.hid hb3
 clear hb1 hb2 hb3
 cases b1
 ·have e : (!false || !b2 || (!b3 && name != [])) = true := by simp
  rw [e]
  clear e
  have hbk := Bk.new w 61 #[.int .i64 who, .string ⟨name.toArray⟩, .int .i64 level]
  have hbw : Below w.heap.size w (w.alloc (.cells #[.int .i64 who, .string ⟨name.toArray⟩, .int .i64 level] 61)) := (Below.refl _ _).alloc (Nat.le_refl _) _
  show Calls _ _ _ _ fun e w' => e = .returned (.bool true) ∧ Below w.heap.size w w'
  go_enter Tryz.func175, Tryz.ntmps175
  go_upto_region 1 with fail
  have HBW := Lib.hid hbw
  have HK0 : Hid (∀ W : World, Below (w.alloc (.cells #[.int .i64 who, .string ⟨name.toArray⟩, .int .i64 level] 61)).heap.size (w.alloc (.cells #[.int .i64 who, .string ⟨name.toArray⟩, .int .i64 level] 61)) W → W.cell? ⟨w.heap.size, 0, none⟩ = some (.int .i64 who) ∧ W.cell? ⟨w.heap.size, 1, none⟩ = some (.string ⟨name.toArray⟩) ∧ W.cell? ⟨w.heap.size, 2, none⟩ = some (.int .i64 level)) := Lib.hid fun W hW => by
   have hB := hbk.below hW
   exact ⟨hB.cell 0, hB.cell 1, hB.cell 2⟩
  clear hbk hbw
  generalize w.heap.size = gb at HK0 ⊢
  generalize (w.alloc _) = w0 at HK0 HBW ⊢
  have HK : Hid (∀ W : World, Below w0.heap.size w0 W → (fun W => W.cell? ⟨gb, 0, none⟩ = some (.int .i64 who) ∧ W.cell? ⟨gb, 1, none⟩ = some (.string ⟨name.toArray⟩) ∧ W.cell? ⟨gb, 2, none⟩ = some (.int .i64 level) ∧ Below w0.heap.size w0 W) W) := Lib.hid fun W hW => by
   obtain ⟨k0, k1, k2⟩ := HK0.out W hW
   exact ⟨k0, k1, k2, hW⟩
  clear HK0
  have hdr : Below w0.heap.size w0 w0.drew := (Below.refl _ _).drew
  refine wp_region_noPanic ?_
  refine wp_region_held_drew (S := (fun W => W.cell? ⟨gb, 0, none⟩ = some (.int .i64 who) ∧ W.cell? ⟨gb, 1, none⟩ = some (.string ⟨name.toArray⟩) ∧ W.cell? ⟨gb, 2, none⟩ = some (.int .i64 level) ∧ Below w0.heap.size w0 W)) (by kernel_rfl) ?_ (fun hHeld => ?_)
  ·exact HK.out _ hdr
  refine wpAnyH_take (i := 0) (v := ?v0_1) rfl (by kernel_rfl) (by kernel_rfl) (by kernel_rfl) (fun _ _ _ h => h) (Or.inl ⟨by rfl, ?y0_1⟩) hHeld ?_
  case y0_1 => (intro w hSw; (try dsimp only at hSw); go_simp; first | done | (with_reducible rfl))
  simp only [gsx, Act.put]
  refine wpAnyH_take (i := 1) (v := ?v1_1) rfl (by kernel_rfl) (by kernel_rfl) (by kernel_rfl) (fun _ _ _ h => h) (Or.inl ⟨by rfl, ?y1_1⟩) hHeld ?_
  case y1_1 => (intro w hSw; (try dsimp only at hSw); go_simp; first | done | (with_reducible rfl))
  simp only [gsx, Act.put]
  refine wpAnyH_ready (rs := [2]) (by kernel_rfl) (by simp) ?_
  refine AllReadyH.cons rfl (fun K hK => ?_) AllReadyH.nil
  go_simp
  (refine (whos_c _).mono ?_; rintro e w2 ⟨rfl, hb2x, _⟩; have hd2 := hdr.trans (hb2x.mono hdr.size))
  (try go_wp2_with fail)
  refine hK.out _ _ ?_ (fun hHeld => ?_)
  ·exact HK.out _ hd2
  clear hK K
  try simp only [gsx, Act.put]
  refine wpAnyH_ready (rs := [3]) (by kernel_rfl) (by simp) ?_
  refine AllReadyH.cons rfl (fun K hK => ?_) AllReadyH.nil
  go_simp
  (refine (in_c _ _ _ _ _).mono ?_; rintro e w3 ⟨rfl, rfl⟩; rw [HIN.out])
  (try go_wp2_with fail)
  refine hK.out _ _ ?_ (fun hHeld => ?_)
  ·exact HK.out _ hd2
  clear hK K
  try simp only [gsx, Act.put]
  refine wpAnyH_take (i := 4) (v := ?v4_1) rfl (by kernel_rfl) (by kernel_rfl) (by kernel_rfl) (fun _ _ _ h => h) (Or.inl ⟨by rfl, ?y4_1⟩) hHeld ?_
  case y4_1 => (intro w hSw; (try dsimp only at hSw); go_simp; first | done | (with_reducible rfl))
  simp only [gsx, Act.put]
  refine wpAnyH_take (i := 5) (v := ?v5_1) rfl (by kernel_rfl) (by kernel_rfl) (by kernel_rfl) (fun _ _ _ h => h) (Or.inl ⟨by rfl, ?y5_1⟩) hHeld ?_
  case y5_1 => (intro w hSw; (try dsimp only at hSw); go_simp; first | done | (with_reducible rfl))
  simp only [gsx, Act.put]
  refine wpAnyH_take (i := 6) (v := undef) rfl (by kernel_rfl) (by kernel_rfl) (by kernel_rfl) (fun _ _ _ h => h) (Or.inr ⟨by rfl, rfl⟩) hHeld ?_
  simp only [gsx, Act.put]
  refine wpAnyH_take (i := 7) (v := undef) rfl (by kernel_rfl) (by kernel_rfl) (by kernel_rfl) (fun _ _ _ h => h) (Or.inr ⟨by rfl, rfl⟩) hHeld ?_
  simp only [gsx, Act.put]
  refine wpAnyH_take (i := 8) (v := undef) rfl (by kernel_rfl) (by kernel_rfl) (by kernel_rfl) (fun _ _ _ h => h) (Or.inr ⟨by rfl, rfl⟩) hHeld ?_
  simp only [gsx, Act.put]
  refine wpAnyH_take (i := 9) (v := undef) rfl (by kernel_rfl) (by kernel_rfl) (by kernel_rfl) (fun _ _ _ h => h) (Or.inr ⟨by rfl, rfl⟩) hHeld ?_
  simp only [gsx, Act.put]
  refine wpAnyH_take (i := 10) (v := undef) rfl (by kernel_rfl) (by kernel_rfl) (by kernel_rfl) (fun _ _ _ h => h) (Or.inr ⟨by rfl, rfl⟩) hHeld ?_
  simp only [gsx, Act.put]
  refine wpAnyH_take (i := 11) (v := ?v11_1) rfl (by kernel_rfl) (by kernel_rfl) (by kernel_rfl) (fun _ _ _ h => h) (Or.inl ⟨by rfl, ?y11_1⟩) hHeld ?_
  case y11_1 => (intro w hSw; (try dsimp only at hSw); go_simp; first | done | (with_reducible rfl))
  simp only [gsx, Act.put]
  refine wpAnyH_take (i := 12) (v := ?v12_1) rfl (by kernel_rfl) (by kernel_rfl) (by kernel_rfl) (fun _ _ _ h => h) (Or.inl ⟨by rfl, ?y12_1⟩) hHeld ?_
  case y12_1 => (intro w hSw; (try dsimp only at hSw); go_simp; first | done | (with_reducible rfl))
  simp only [gsx, Act.put]
  refine wpAnyH_take (i := 13) (v := undef) rfl (by kernel_rfl) (by kernel_rfl) (by kernel_rfl) (fun _ _ _ h => h) (Or.inr ⟨by rfl, rfl⟩) hHeld ?_
  simp only [gsx, Act.put]
  refine wpAnyH_take (i := 14) (v := undef) rfl (by kernel_rfl) (by kernel_rfl) (by kernel_rfl) (fun _ _ _ h => h) (Or.inr ⟨by rfl, rfl⟩) hHeld ?_
  simp only [gsx, Act.put]
  refine wpAnyH_take (i := 15) (v := undef) rfl (by kernel_rfl) (by kernel_rfl) (by kernel_rfl) (fun _ _ _ h => h) (Or.inr ⟨by rfl, rfl⟩) hHeld ?_
  simp only [gsx, Act.put]
  refine wpAnyH_take (i := 16) (v := undef) rfl (by kernel_rfl) (by kernel_rfl) (by kernel_rfl) (fun _ _ _ h => h) (Or.inr ⟨by rfl, rfl⟩) hHeld ?_
  simp only [gsx, Act.put]
  refine wpAnyH_take (i := 17) (v := undef) rfl (by kernel_rfl) (by kernel_rfl) (by kernel_rfl) (fun _ _ _ h => h) (Or.inr ⟨by rfl, rfl⟩) hHeld ?_
  simp only [gsx, Act.put]
  refine wpAnyH_take (i := 18) (v := undef) rfl (by kernel_rfl) (by kernel_rfl) (by kernel_rfl) (fun _ _ _ h => h) (Or.inr ⟨by rfl, rfl⟩) hHeld ?_
  simp only [gsx, Act.put]
  refine wpAnyH_take (i := 19) (v := undef) rfl (by kernel_rfl) (by kernel_rfl) (by kernel_rfl) (fun _ _ _ h => h) (Or.inr ⟨by rfl, rfl⟩) hHeld ?_
  simp only [gsx, Act.put]
  refine wpAnyH_take (i := 20) (v := undef) rfl (by kernel_rfl) (by kernel_rfl) (by kernel_rfl) (fun _ _ _ h => h) (Or.inr ⟨by rfl, rfl⟩) hHeld ?_
  simp only [gsx, Act.put]
  refine wpAnyH_take (i := 21) (v := undef) rfl (by kernel_rfl) (by kernel_rfl) (by kernel_rfl) (fun _ _ _ h => h) (Or.inr ⟨by rfl, rfl⟩) hHeld ?_
  simp only [gsx, Act.put]
  refine wpAnyH_take (i := 22) (v := ?v22_1) rfl (by kernel_rfl) (by kernel_rfl) (by kernel_rfl) (fun _ _ _ h => h) (Or.inl ⟨by rfl, ?y22_1⟩) hHeld ?_
  case y22_1 => (intro w hSw; (try dsimp only at hSw); go_simp; first | done | (with_reducible rfl))
  simp only [gsx, Act.put]
  refine wpAnyH_take (i := 23) (v := ?v23_1) rfl (by kernel_rfl) (by kernel_rfl) (by kernel_rfl) (fun _ _ _ h => h) (Or.inl ⟨by rfl, ?y23_1⟩) hHeld ?_
  case y23_1 => (intro w hSw; (try dsimp only at hSw); go_simp; first | done | (with_reducible rfl))
  simp only [gsx, Act.put]
  refine wpAnyH_done (by kernel_rfl) ?_ _
  refine NoPanic.normal ?_
  go_wp2_with fail
  go_ret
  exact ⟨rfl, HBW.out.trans (hd2.mono HBW.out.size)⟩
 ·cases b2
  ·have e : (!true || !false || (!b3 && name != [])) = true := by simp
   rw [e]
   clear e
   have hbk := Bk.new w 61 #[.int .i64 who, .string ⟨name.toArray⟩, .int .i64 level]
   have hbw : Below w.heap.size w (w.alloc (.cells #[.int .i64 who, .string ⟨name.toArray⟩, .int .i64 level] 61)) := (Below.refl _ _).alloc (Nat.le_refl _) _
   show Calls _ _ _ _ fun e w' => e = .returned (.bool true) ∧ Below w.heap.size w w'
   go_enter Tryz.func175, Tryz.ntmps175
   go_upto_region 1 with fail
   have HBW := Lib.hid hbw
   have HK0 : Hid (∀ W : World, Below (w.alloc (.cells #[.int .i64 who, .string ⟨name.toArray⟩, .int .i64 level] 61)).heap.size (w.alloc (.cells #[.int .i64 who, .string ⟨name.toArray⟩, .int .i64 level] 61)) W → W.cell? ⟨w.heap.size, 0, none⟩ = some (.int .i64 who) ∧ W.cell? ⟨w.heap.size, 1, none⟩ = some (.string ⟨name.toArray⟩) ∧ W.cell? ⟨w.heap.size, 2, none⟩ = some (.int .i64 level)) := Lib.hid fun W hW => by
    have hB := hbk.below hW
    exact ⟨hB.cell 0, hB.cell 1, hB.cell 2⟩
   clear hbk hbw
   generalize w.heap.size = gb at HK0 ⊢
   generalize (w.alloc _) = w0 at HK0 HBW ⊢
   have HK : Hid (∀ W : World, Below w0.heap.size w0 W → (fun W => W.cell? ⟨gb, 0, none⟩ = some (.int .i64 who) ∧ W.cell? ⟨gb, 1, none⟩ = some (.string ⟨name.toArray⟩) ∧ W.cell? ⟨gb, 2, none⟩ = some (.int .i64 level) ∧ Below w0.heap.size w0 W) W) := Lib.hid fun W hW => by
    obtain ⟨k0, k1, k2⟩ := HK0.out W hW
    exact ⟨k0, k1, k2, hW⟩
   clear HK0
   have hdr : Below w0.heap.size w0 w0.drew := (Below.refl _ _).drew
   refine wp_region_noPanic ?_
   refine wp_region_held_drew (S := (fun W => W.cell? ⟨gb, 0, none⟩ = some (.int .i64 who) ∧ W.cell? ⟨gb, 1, none⟩ = some (.string ⟨name.toArray⟩) ∧ W.cell? ⟨gb, 2, none⟩ = some (.int .i64 level) ∧ Below w0.heap.size w0 W)) (by kernel_rfl) ?_ (fun hHeld => ?_)
   ·exact HK.out _ hdr
   refine wpAnyH_take (i := 0) (v := ?v0_2) rfl (by kernel_rfl) (by kernel_rfl) (by kernel_rfl) (fun _ _ _ h => h) (Or.inl ⟨by rfl, ?y0_2⟩) hHeld ?_
   case y0_2 => (intro w hSw; (try dsimp only at hSw); go_simp; first | done | (with_reducible rfl))
   simp only [gsx, Act.put]
   refine wpAnyH_take (i := 1) (v := ?v1_2) rfl (by kernel_rfl) (by kernel_rfl) (by kernel_rfl) (fun _ _ _ h => h) (Or.inl ⟨by rfl, ?y1_2⟩) hHeld ?_
   case y1_2 => (intro w hSw; (try dsimp only at hSw); go_simp; first | done | (with_reducible rfl))
   simp only [gsx, Act.put]
   refine wpAnyH_ready (rs := [2]) (by kernel_rfl) (by simp) ?_
   refine AllReadyH.cons rfl (fun K hK => ?_) AllReadyH.nil
   go_simp
   (refine (whos_c _).mono ?_; rintro e w2 ⟨rfl, hb2x, _⟩; have hd2 := hdr.trans (hb2x.mono hdr.size))
   (try go_wp2_with fail)
   refine hK.out _ _ ?_ (fun hHeld => ?_)
   ·exact HK.out _ hd2
   clear hK K
   try simp only [gsx, Act.put]
   refine wpAnyH_ready (rs := [3]) (by kernel_rfl) (by simp) ?_
   refine AllReadyH.cons rfl (fun K hK => ?_) AllReadyH.nil
   go_simp
   (refine (in_c _ _ _ _ _).mono ?_; rintro e w3 ⟨rfl, rfl⟩; rw [HIN.out])
   (try go_wp2_with fail)
   refine hK.out _ _ ?_ (fun hHeld => ?_)
   ·exact HK.out _ hd2
   clear hK K
   try simp only [gsx, Act.put]
   refine wpAnyH_take (i := 4) (v := .bool false) rfl (by kernel_rfl) (by kernel_rfl) (by kernel_rfl) (fun _ _ _ h => h) (Or.inl ⟨by rfl, ?y4_2⟩) hHeld ?_
   case y4_2 => (intro w hSw; (try dsimp only at hSw); go_simp; first | done | (with_reducible rfl))
   simp only [gsx, Act.put]
   refine wpAnyH_take (i := 5) (v := .bool false) rfl (by kernel_rfl) (by kernel_rfl) (by kernel_rfl) (fun _ _ _ h => h) (Or.inl ⟨by rfl, ?y5_2⟩) hHeld ?_
   case y5_2 => (intro w hSw; (try dsimp only at hSw); go_simp; first | done | (with_reducible rfl))
   simp only [gsx, Act.put]
   refine wpAnyH_take (i := 6) (v := ?v6_2) rfl (by kernel_rfl) (by kernel_rfl) (by kernel_rfl) (fun _ _ _ h => h) (Or.inl ⟨by rfl, ?y6_2⟩) hHeld ?_
   case y6_2 => (intro w hSw; (try dsimp only at hSw); go_simp; first | done | (with_reducible rfl))
   simp only [gsx, Act.put]
   refine wpAnyH_take (i := 7) (v := ?v7_2) rfl (by kernel_rfl) (by kernel_rfl) (by kernel_rfl) (fun _ _ _ h => h) (Or.inl ⟨by rfl, ?y7_2⟩) hHeld ?_
   case y7_2 => (intro w hSw; (try dsimp only at hSw); go_simp; first | done | (with_reducible rfl))
   simp only [gsx, Act.put]
   refine wpAnyH_ready (rs := [8]) (by kernel_rfl) (by simp) ?_
   refine AllReadyH.cons rfl (fun K hK => ?_) AllReadyH.nil
   go_simp
   (refine (levels_c _).mono ?_; rintro e w4 ⟨rfl, hb4x, _⟩; have hd4 := hd2.trans (hb4x.mono hd2.size))
   (try go_wp2_with fail)
   refine hK.out _ _ ?_ (fun hHeld => ?_)
   ·exact HK.out _ hd4
   clear hK K
   try simp only [gsx, Act.put]
   refine wpAnyH_ready (rs := [9]) (by kernel_rfl) (by simp) ?_
   refine AllReadyH.cons rfl (fun K hK => ?_) AllReadyH.nil
   go_simp
   (refine (in_c _ _ _ _ _).mono ?_; rintro e w5 ⟨rfl, rfl⟩; rw [HIL.out])
   (try go_wp2_with fail)
   refine hK.out _ _ ?_ (fun hHeld => ?_)
   ·exact HK.out _ hd4
   clear hK K
   try simp only [gsx, Act.put]
   refine wpAnyH_take (i := 10) (v := ?v10_2) rfl (by kernel_rfl) (by kernel_rfl) (by kernel_rfl) (fun _ _ _ h => h) (Or.inl ⟨by rfl, ?y10_2⟩) hHeld ?_
   case y10_2 => (intro w hSw; (try dsimp only at hSw); go_simp; first | done | (with_reducible rfl))
   simp only [gsx, Act.put]
   refine wpAnyH_take (i := 11) (v := ?v11_2) rfl (by kernel_rfl) (by kernel_rfl) (by kernel_rfl) (fun _ _ _ h => h) (Or.inl ⟨by rfl, ?y11_2⟩) hHeld ?_
   case y11_2 => (intro w hSw; (try dsimp only at hSw); go_simp; first | done | (with_reducible rfl))
   simp only [gsx, Act.put]
   refine wpAnyH_take (i := 12) (v := ?v12_2) rfl (by kernel_rfl) (by kernel_rfl) (by kernel_rfl) (fun _ _ _ h => h) (Or.inl ⟨by rfl, ?y12_2⟩) hHeld ?_
   case y12_2 => (intro w hSw; (try dsimp only at hSw); go_simp; first | done | (with_reducible rfl))
   simp only [gsx, Act.put]
   refine wpAnyH_take (i := 13) (v := undef) rfl (by kernel_rfl) (by kernel_rfl) (by kernel_rfl) (fun _ _ _ h => h) (Or.inr ⟨by rfl, rfl⟩) hHeld ?_
   simp only [gsx, Act.put]
   refine wpAnyH_take (i := 14) (v := undef) rfl (by kernel_rfl) (by kernel_rfl) (by kernel_rfl) (fun _ _ _ h => h) (Or.inr ⟨by rfl, rfl⟩) hHeld ?_
   simp only [gsx, Act.put]
   refine wpAnyH_take (i := 15) (v := undef) rfl (by kernel_rfl) (by kernel_rfl) (by kernel_rfl) (fun _ _ _ h => h) (Or.inr ⟨by rfl, rfl⟩) hHeld ?_
   simp only [gsx, Act.put]
   refine wpAnyH_take (i := 16) (v := undef) rfl (by kernel_rfl) (by kernel_rfl) (by kernel_rfl) (fun _ _ _ h => h) (Or.inr ⟨by rfl, rfl⟩) hHeld ?_
   simp only [gsx, Act.put]
   refine wpAnyH_take (i := 17) (v := undef) rfl (by kernel_rfl) (by kernel_rfl) (by kernel_rfl) (fun _ _ _ h => h) (Or.inr ⟨by rfl, rfl⟩) hHeld ?_
   simp only [gsx, Act.put]
   refine wpAnyH_take (i := 18) (v := undef) rfl (by kernel_rfl) (by kernel_rfl) (by kernel_rfl) (fun _ _ _ h => h) (Or.inr ⟨by rfl, rfl⟩) hHeld ?_
   simp only [gsx, Act.put]
   refine wpAnyH_take (i := 19) (v := undef) rfl (by kernel_rfl) (by kernel_rfl) (by kernel_rfl) (fun _ _ _ h => h) (Or.inr ⟨by rfl, rfl⟩) hHeld ?_
   simp only [gsx, Act.put]
   refine wpAnyH_take (i := 20) (v := undef) rfl (by kernel_rfl) (by kernel_rfl) (by kernel_rfl) (fun _ _ _ h => h) (Or.inr ⟨by rfl, rfl⟩) hHeld ?_
   simp only [gsx, Act.put]
   refine wpAnyH_take (i := 21) (v := undef) rfl (by kernel_rfl) (by kernel_rfl) (by kernel_rfl) (fun _ _ _ h => h) (Or.inr ⟨by rfl, rfl⟩) hHeld ?_
   simp only [gsx, Act.put]
   refine wpAnyH_take (i := 22) (v := ?v22_2) rfl (by kernel_rfl) (by kernel_rfl) (by kernel_rfl) (fun _ _ _ h => h) (Or.inl ⟨by rfl, ?y22_2⟩) hHeld ?_
   case y22_2 => (intro w hSw; (try dsimp only at hSw); go_simp; first | done | (with_reducible rfl))
   simp only [gsx, Act.put]
   refine wpAnyH_take (i := 23) (v := ?v23_2) rfl (by kernel_rfl) (by kernel_rfl) (by kernel_rfl) (fun _ _ _ h => h) (Or.inl ⟨by rfl, ?y23_2⟩) hHeld ?_
   case y23_2 => (intro w hSw; (try dsimp only at hSw); go_simp; first | done | (with_reducible rfl))
   simp only [gsx, Act.put]
   refine wpAnyH_done (by kernel_rfl) ?_ _
   refine NoPanic.normal ?_
   go_wp2_with fail
   go_ret
   exact ⟨rfl, HBW.out.trans (hd4.mono HBW.out.size)⟩
  ·cases b3
   ·cases name with
    | nil =>
     have e : (!true || !true || (!false && ([] : List UInt8) != [])) = false := by simp
     rw [e]
     clear e
     have hbk := Bk.new w 61 #[.int .i64 who, .string ⟨([] : List UInt8).toArray⟩, .int .i64 level]
     have hbw : Below w.heap.size w (w.alloc (.cells #[.int .i64 who, .string ⟨([] : List UInt8).toArray⟩, .int .i64 level] 61)) := (Below.refl _ _).alloc (Nat.le_refl _) _
     show Calls _ _ _ _ fun e w' => e = .returned (.bool false) ∧ Below w.heap.size w w'
     go_enter Tryz.func175, Tryz.ntmps175
     go_upto_region 1 with fail
     have HBW := Lib.hid hbw
     have HK0 : Hid (∀ W : World, Below (w.alloc (.cells #[.int .i64 who, .string ⟨([] : List UInt8).toArray⟩, .int .i64 level] 61)).heap.size (w.alloc (.cells #[.int .i64 who, .string ⟨([] : List UInt8).toArray⟩, .int .i64 level] 61)) W → W.cell? ⟨w.heap.size, 0, none⟩ = some (.int .i64 who) ∧ W.cell? ⟨w.heap.size, 1, none⟩ = some (.string ⟨([] : List UInt8).toArray⟩) ∧ W.cell? ⟨w.heap.size, 2, none⟩ = some (.int .i64 level)) := Lib.hid fun W hW => by
      have hB := hbk.below hW
      exact ⟨hB.cell 0, hB.cell 1, hB.cell 2⟩
     clear hbk hbw
     generalize w.heap.size = gb at HK0 ⊢
     generalize (w.alloc _) = w0 at HK0 HBW ⊢
     have HK : Hid (∀ W : World, Below w0.heap.size w0 W → (fun W => W.cell? ⟨gb, 0, none⟩ = some (.int .i64 who) ∧ W.cell? ⟨gb, 1, none⟩ = some (.string ⟨([] : List UInt8).toArray⟩) ∧ W.cell? ⟨gb, 2, none⟩ = some (.int .i64 level) ∧ Below w0.heap.size w0 W) W) := Lib.hid fun W hW => by
      obtain ⟨k0, k1, k2⟩ := HK0.out W hW
      exact ⟨k0, k1, k2, hW⟩
     clear HK0
     have hdr : Below w0.heap.size w0 w0.drew := (Below.refl _ _).drew
     go_region_held3 (fun W => W.cell? ⟨gb, 0, none⟩ = some (.int .i64 who) ∧ W.cell? ⟨gb, 1, none⟩ = some (.string ⟨([] : List UInt8).toArray⟩) ∧ W.cell? ⟨gb, 2, none⟩ = some (.int .i64 level) ∧ Below w0.heap.size w0 W) (first | exact HK.out _ hdr | exact HK.out _ hd2 | exact HK.out _ hd4 | fail) (first | (go_at_call 28; refine (whos_c _).mono ?_; rintro e w2 ⟨rfl, hb2x, _⟩; have hd2 := hdr.trans (hb2x.mono hdr.size)) | (go_at_call 31; refine (levels_c _).mono ?_; rintro e w4 ⟨rfl, hb4x, _⟩; have hd4 := hd2.trans (hb4x.mono hd2.size)) | (go_at_call 120; refine (in_c _ _ _ _ _).mono ?_; rintro e w3 ⟨rfl, rfl⟩; (first | rw [HIN.out] | rw [HIL.out])) | (go_at_call 29; refine (named_c _ _).mono ?_; rintro e w6 ⟨rfl, rfl⟩; rw [HNM.out]))
     go_wp2_with fail
     go_ret
     exact ⟨rfl, HBW.out.trans (hd4.mono HBW.out.size)⟩
    | cons c name =>
     have e : (!true || !true || (!false && (c :: name) != [])) = true := by simp
     rw [e]
     clear e
     have hbk := Bk.new w 61 #[.int .i64 who, .string ⟨(c :: name).toArray⟩, .int .i64 level]
     have hbw : Below w.heap.size w (w.alloc (.cells #[.int .i64 who, .string ⟨(c :: name).toArray⟩, .int .i64 level] 61)) := (Below.refl _ _).alloc (Nat.le_refl _) _
     show Calls _ _ _ _ fun e w' => e = .returned (.bool true) ∧ Below w.heap.size w w'
     go_enter Tryz.func175, Tryz.ntmps175
     go_upto_region 1 with fail
     have HBW := Lib.hid hbw
     have HK0 : Hid (∀ W : World, Below (w.alloc (.cells #[.int .i64 who, .string ⟨(c :: name).toArray⟩, .int .i64 level] 61)).heap.size (w.alloc (.cells #[.int .i64 who, .string ⟨(c :: name).toArray⟩, .int .i64 level] 61)) W → W.cell? ⟨w.heap.size, 0, none⟩ = some (.int .i64 who) ∧ W.cell? ⟨w.heap.size, 1, none⟩ = some (.string ⟨(c :: name).toArray⟩) ∧ W.cell? ⟨w.heap.size, 2, none⟩ = some (.int .i64 level)) := Lib.hid fun W hW => by
      have hB := hbk.below hW
      exact ⟨hB.cell 0, hB.cell 1, hB.cell 2⟩
     clear hbk hbw
     generalize w.heap.size = gb at HK0 ⊢
     generalize (w.alloc _) = w0 at HK0 HBW ⊢
     have HK : Hid (∀ W : World, Below w0.heap.size w0 W → (fun W => W.cell? ⟨gb, 0, none⟩ = some (.int .i64 who) ∧ W.cell? ⟨gb, 1, none⟩ = some (.string ⟨(c :: name).toArray⟩) ∧ W.cell? ⟨gb, 2, none⟩ = some (.int .i64 level) ∧ Below w0.heap.size w0 W) W) := Lib.hid fun W hW => by
      obtain ⟨k0, k1, k2⟩ := HK0.out W hW
      exact ⟨k0, k1, k2, hW⟩
     clear HK0
     have hdr : Below w0.heap.size w0 w0.drew := (Below.refl _ _).drew
     go_region_held3 (fun W => W.cell? ⟨gb, 0, none⟩ = some (.int .i64 who) ∧ W.cell? ⟨gb, 1, none⟩ = some (.string ⟨(c :: name).toArray⟩) ∧ W.cell? ⟨gb, 2, none⟩ = some (.int .i64 level) ∧ Below w0.heap.size w0 W) (first | exact HK.out _ hdr | exact HK.out _ hd2 | exact HK.out _ hd4 | fail) (first | (go_at_call 28; refine (whos_c _).mono ?_; rintro e w2 ⟨rfl, hb2x, _⟩; have hd2 := hdr.trans (hb2x.mono hdr.size)) | (go_at_call 31; refine (levels_c _).mono ?_; rintro e w4 ⟨rfl, hb4x, _⟩; have hd4 := hd2.trans (hb4x.mono hd2.size)) | (go_at_call 120; refine (in_c _ _ _ _ _).mono ?_; rintro e w3 ⟨rfl, rfl⟩; (first | rw [HIN.out] | rw [HIL.out])) | (go_at_call 29; refine (named_c _ _).mono ?_; rintro e w6 ⟨rfl, rfl⟩; rw [HNM.out]))
     go_wp2_with fail
     go_ret
     exact ⟨rfl, HBW.out.trans (hd4.mono HBW.out.size)⟩
   ·have e : (!true || !true || (!true && name != [])) = false := by simp
    rw [e]
    clear e
    have hbk := Bk.new w 61 #[.int .i64 who, .string ⟨name.toArray⟩, .int .i64 level]
    have hbw : Below w.heap.size w (w.alloc (.cells #[.int .i64 who, .string ⟨name.toArray⟩, .int .i64 level] 61)) := (Below.refl _ _).alloc (Nat.le_refl _) _
    show Calls _ _ _ _ fun e w' => e = .returned (.bool false) ∧ Below w.heap.size w w'
    go_enter Tryz.func175, Tryz.ntmps175
    go_upto_region 1 with fail
    have HBW := Lib.hid hbw
    have HK0 : Hid (∀ W : World, Below (w.alloc (.cells #[.int .i64 who, .string ⟨name.toArray⟩, .int .i64 level] 61)).heap.size (w.alloc (.cells #[.int .i64 who, .string ⟨name.toArray⟩, .int .i64 level] 61)) W → W.cell? ⟨w.heap.size, 0, none⟩ = some (.int .i64 who) ∧ W.cell? ⟨w.heap.size, 1, none⟩ = some (.string ⟨name.toArray⟩) ∧ W.cell? ⟨w.heap.size, 2, none⟩ = some (.int .i64 level)) := Lib.hid fun W hW => by
     have hB := hbk.below hW
     exact ⟨hB.cell 0, hB.cell 1, hB.cell 2⟩
    clear hbk hbw
    generalize w.heap.size = gb at HK0 ⊢
    generalize (w.alloc _) = w0 at HK0 HBW ⊢
    have HK : Hid (∀ W : World, Below w0.heap.size w0 W → (fun W => W.cell? ⟨gb, 0, none⟩ = some (.int .i64 who) ∧ W.cell? ⟨gb, 1, none⟩ = some (.string ⟨name.toArray⟩) ∧ W.cell? ⟨gb, 2, none⟩ = some (.int .i64 level) ∧ Below w0.heap.size w0 W) W) := Lib.hid fun W hW => by
     obtain ⟨k0, k1, k2⟩ := HK0.out W hW
     exact ⟨k0, k1, k2, hW⟩
    clear HK0
    have hdr : Below w0.heap.size w0 w0.drew := (Below.refl _ _).drew
    refine wp_region_noPanic ?_
    refine wp_region_held_drew (S := (fun W => W.cell? ⟨gb, 0, none⟩ = some (.int .i64 who) ∧ W.cell? ⟨gb, 1, none⟩ = some (.string ⟨name.toArray⟩) ∧ W.cell? ⟨gb, 2, none⟩ = some (.int .i64 level) ∧ Below w0.heap.size w0 W)) (by kernel_rfl) ?_ (fun hHeld => ?_)
    ·exact HK.out _ hdr
    refine wpAnyH_take (i := 0) (v := ?v0_3) rfl (by kernel_rfl) (by kernel_rfl) (by kernel_rfl) (fun _ _ _ h => h) (Or.inl ⟨by rfl, ?y0_3⟩) hHeld ?_
    case y0_3 => (intro w hSw; (try dsimp only at hSw); go_simp; first | done | (with_reducible rfl))
    simp only [gsx, Act.put]
    refine wpAnyH_take (i := 1) (v := ?v1_3) rfl (by kernel_rfl) (by kernel_rfl) (by kernel_rfl) (fun _ _ _ h => h) (Or.inl ⟨by rfl, ?y1_3⟩) hHeld ?_
    case y1_3 => (intro w hSw; (try dsimp only at hSw); go_simp; first | done | (with_reducible rfl))
    simp only [gsx, Act.put]
    refine wpAnyH_ready (rs := [2]) (by kernel_rfl) (by simp) ?_
    refine AllReadyH.cons rfl (fun K hK => ?_) AllReadyH.nil
    go_simp
    (refine (whos_c _).mono ?_; rintro e w2 ⟨rfl, hb2x, _⟩; have hd2 := hdr.trans (hb2x.mono hdr.size))
    (try go_wp2_with fail)
    refine hK.out _ _ ?_ (fun hHeld => ?_)
    ·exact HK.out _ hd2
    clear hK K
    try simp only [gsx, Act.put]
    refine wpAnyH_ready (rs := [3]) (by kernel_rfl) (by simp) ?_
    refine AllReadyH.cons rfl (fun K hK => ?_) AllReadyH.nil
    go_simp
    (refine (in_c _ _ _ _ _).mono ?_; rintro e w3 ⟨rfl, rfl⟩; rw [HIN.out])
    (try go_wp2_with fail)
    refine hK.out _ _ ?_ (fun hHeld => ?_)
    ·exact HK.out _ hd2
    clear hK K
    try simp only [gsx, Act.put]
    refine wpAnyH_take (i := 4) (v := .bool false) rfl (by kernel_rfl) (by kernel_rfl) (by kernel_rfl) (fun _ _ _ h => h) (Or.inl ⟨by rfl, ?y4_3⟩) hHeld ?_
    case y4_3 => (intro w hSw; (try dsimp only at hSw); go_simp; first | done | (with_reducible rfl))
    simp only [gsx, Act.put]
    refine wpAnyH_take (i := 5) (v := .bool false) rfl (by kernel_rfl) (by kernel_rfl) (by kernel_rfl) (fun _ _ _ h => h) (Or.inl ⟨by rfl, ?y5_3⟩) hHeld ?_
    case y5_3 => (intro w hSw; (try dsimp only at hSw); go_simp; first | done | (with_reducible rfl))
    simp only [gsx, Act.put]
    refine wpAnyH_take (i := 6) (v := ?v6_3) rfl (by kernel_rfl) (by kernel_rfl) (by kernel_rfl) (fun _ _ _ h => h) (Or.inl ⟨by rfl, ?y6_3⟩) hHeld ?_
    case y6_3 => (intro w hSw; (try dsimp only at hSw); go_simp; first | done | (with_reducible rfl))
    simp only [gsx, Act.put]
    refine wpAnyH_take (i := 7) (v := ?v7_3) rfl (by kernel_rfl) (by kernel_rfl) (by kernel_rfl) (fun _ _ _ h => h) (Or.inl ⟨by rfl, ?y7_3⟩) hHeld ?_
    case y7_3 => (intro w hSw; (try dsimp only at hSw); go_simp; first | done | (with_reducible rfl))
    simp only [gsx, Act.put]
    refine wpAnyH_ready (rs := [8]) (by kernel_rfl) (by simp) ?_
    refine AllReadyH.cons rfl (fun K hK => ?_) AllReadyH.nil
    go_simp
    (refine (levels_c _).mono ?_; rintro e w4 ⟨rfl, hb4x, _⟩; have hd4 := hd2.trans (hb4x.mono hd2.size))
    (try go_wp2_with fail)
    refine hK.out _ _ ?_ (fun hHeld => ?_)
    ·exact HK.out _ hd4
    clear hK K
    try simp only [gsx, Act.put]
    refine wpAnyH_ready (rs := [9]) (by kernel_rfl) (by simp) ?_
    refine AllReadyH.cons rfl (fun K hK => ?_) AllReadyH.nil
    go_simp
    (refine (in_c _ _ _ _ _).mono ?_; rintro e w5 ⟨rfl, rfl⟩; rw [HIL.out])
    (try go_wp2_with fail)
    refine hK.out _ _ ?_ (fun hHeld => ?_)
    ·exact HK.out _ hd4
    clear hK K
    try simp only [gsx, Act.put]
    refine wpAnyH_take (i := 10) (v := .bool false) rfl (by kernel_rfl) (by kernel_rfl) (by kernel_rfl) (fun _ _ _ h => h) (Or.inl ⟨by rfl, ?y10_3⟩) hHeld ?_
    case y10_3 => (intro w hSw; (try dsimp only at hSw); go_simp; first | done | (with_reducible rfl))
    simp only [gsx, Act.put]
    refine wpAnyH_take (i := 11) (v := .bool false) rfl (by kernel_rfl) (by kernel_rfl) (by kernel_rfl) (fun _ _ _ h => h) (Or.inl ⟨by rfl, ?y11_3⟩) hHeld ?_
    case y11_3 => (intro w hSw; (try dsimp only at hSw); go_simp; first | done | (with_reducible rfl))
    simp only [gsx, Act.put]
    refine wpAnyH_take (i := 12) (v := .bool false) rfl (by kernel_rfl) (by kernel_rfl) (by kernel_rfl) (fun _ _ _ h => h) (Or.inl ⟨by rfl, ?y12_3⟩) hHeld ?_
    case y12_3 => (intro w hSw; (try dsimp only at hSw); go_simp; first | done | (with_reducible rfl))
    simp only [gsx, Act.put]
    refine wpAnyH_take (i := 13) (v := ?v13_3) rfl (by kernel_rfl) (by kernel_rfl) (by kernel_rfl) (fun _ _ _ h => h) (Or.inl ⟨by rfl, ?y13_3⟩) hHeld ?_
    case y13_3 => (intro w hSw; (try dsimp only at hSw); go_simp; first | done | (with_reducible rfl))
    simp only [gsx, Act.put]
    refine wpAnyH_take (i := 14) (v := ?v14_3) rfl (by kernel_rfl) (by kernel_rfl) (by kernel_rfl) (fun _ _ _ h => h) (Or.inl ⟨by rfl, ?y14_3⟩) hHeld ?_
    case y14_3 => (intro w hSw; (try dsimp only at hSw); go_simp; first | done | (with_reducible rfl))
    simp only [gsx, Act.put]
    refine wpAnyH_ready (rs := [15]) (by kernel_rfl) (by simp) ?_
    refine AllReadyH.cons rfl (fun K hK => ?_) AllReadyH.nil
    go_simp
    (refine (named_c _ _).mono ?_; rintro e w6 ⟨rfl, rfl⟩; rw [HNM.out])
    (try go_wp2_with fail)
    refine hK.out _ _ ?_ (fun hHeld => ?_)
    ·exact HK.out _ hd4
    clear hK K
    try simp only [gsx, Act.put]
    refine wpAnyH_take (i := 16) (v := .bool false) rfl (by kernel_rfl) (by kernel_rfl) (by kernel_rfl) (fun _ _ _ h => h) (Or.inl ⟨by rfl, ?y16_3⟩) hHeld ?_
    case y16_3 => (intro w hSw; (try dsimp only at hSw); go_simp; first | done | (with_reducible rfl))
    simp only [gsx, Act.put]
    refine wpAnyH_take (i := 17) (v := .bool false) rfl (by kernel_rfl) (by kernel_rfl) (by kernel_rfl) (fun _ _ _ h => h) (Or.inl ⟨by rfl, ?y17_3⟩) hHeld ?_
    case y17_3 => (intro w hSw; (try dsimp only at hSw); go_simp; first | done | (with_reducible rfl))
    simp only [gsx, Act.put]
    refine wpAnyH_take (i := 18) (v := undef) rfl (by kernel_rfl) (by kernel_rfl) (by kernel_rfl) (fun _ _ _ h => h) (Or.inr ⟨by rfl, rfl⟩) hHeld ?_
    simp only [gsx, Act.put]
    refine wpAnyH_take (i := 19) (v := undef) rfl (by kernel_rfl) (by kernel_rfl) (by kernel_rfl) (fun _ _ _ h => h) (Or.inr ⟨by rfl, rfl⟩) hHeld ?_
    simp only [gsx, Act.put]
    refine wpAnyH_take (i := 20) (v := undef) rfl (by kernel_rfl) (by kernel_rfl) (by kernel_rfl) (fun _ _ _ h => h) (Or.inr ⟨by rfl, rfl⟩) hHeld ?_
    simp only [gsx, Act.put]
    refine wpAnyH_take (i := 21) (v := .bool false) rfl (by kernel_rfl) (by kernel_rfl) (by kernel_rfl) (fun _ _ _ h => h) (Or.inl ⟨by rfl, ?y21_3⟩) hHeld ?_
    case y21_3 => (intro w hSw; (try dsimp only at hSw); go_simp; first | done | (with_reducible rfl))
    simp only [gsx, Act.put]
    refine wpAnyH_take (i := 22) (v := .bool false) rfl (by kernel_rfl) (by kernel_rfl) (by kernel_rfl) (fun _ _ _ h => h) (Or.inl ⟨by rfl, ?y22_3⟩) hHeld ?_
    case y22_3 => (intro w hSw; (try dsimp only at hSw); go_simp; first | done | (with_reducible rfl))
    simp only [gsx, Act.put]
    refine wpAnyH_take (i := 23) (v := .bool false) rfl (by kernel_rfl) (by kernel_rfl) (by kernel_rfl) (fun _ _ _ h => h) (Or.inl ⟨by rfl, ?y23_3⟩) hHeld ?_
    case y23_3 => (intro w hSw; (try dsimp only at hSw); go_simp; first | done | (with_reducible rfl))
    simp only [gsx, Act.put]
    refine wpAnyH_done (by kernel_rfl) ?_ _
    refine NoPanic.normal ?_
    go_wp2_with fail
    go_ret
    exact ⟨rfl, HBW.out.trans (hd4.mono HBW.out.size)⟩
def ruleArg (r : RuleS) (va vg : Value) : Value := .agg #[.int .i64 r.what, .string ⟨r.name.toArray⟩, va, vg]
set_option maxRecDepth 100000 in
theorem said_c (r : RuleS) (va vg : Value) (w : World) (hw : Env w) (hva : TextsA w va r.attrs) (hvg : GrantsA w vg r.grants) (hal : r.attrs.length ≤ 1048576) (hat : ∀ t ∈ r.attrs, t.length ≤ 4000000) (hgl : r.grants.length ≤ 1000000) :
  Calls Tryz.prog 108 #[ruleArg r va vg] w fun e w' => e = .returned (.bool (saidA r)) ∧ Below w.heap.size w w' := by
 have hsaid : saidA r = if !(decide (0 ≤ r.what) && decide (r.what < (whatWs.length : Nat))) || (r.what == 0 && r.name != []) || r.grants.isEmpty then false else !r.grants.any badGrant && !r.attrs.any (fun t => !isTypeL t) := rfl
 rw [hsaid]
 clear hsaid
 obtain ⟨what, name, attrs, grants⟩ := r
 unfold ruleArg
 simp only at hva hvg hal hat hgl ⊢
 have HGR : Hid (∀ W : World, Below w.heap.size w W → Calls Tryz.prog 176 #[vg, .func (.func 175) #[] #[]] W fun e w' => e = .returned (.bool (grants.any badGrant)) ∧ Below W.heap.size W w') := Lib.hid fun W hW => ContainsFuncGr_c _ _ grants vg W (hvg.below hW) (by omega) badGrant ⟨fun x _ W' _ => said1_c x W', fun _ _ => by kernel_rfl⟩
 have HAR : Hid (∀ W : World, Below w.heap.size w W → Calls Tryz.prog 25 #[va, .func (.func 177) #[] #[]] W fun e w' => e = .returned (.bool (attrs.any (fun t => !isTypeL t))) ∧ Below W.heap.size W w') := Lib.hid fun W hW => ContainsFuncSA_c _ _ attrs va W (hva.below hW) (by omega) _ ⟨fun x hx W' hW' => said2_c x W' ((hw.keep hW).keep hW') (by have := hat x hx; omega), fun _ _ => by kernel_rfl⟩
 obtain ⟨Aa, ca, rfl, _⟩ := hva.at
 obtain ⟨Ag, cg, rfl, _⟩ := id hvg
 clear hva hvg hw hat
 generalize grants.any badGrant = bg at HGR ⊢
 generalize attrs.any (fun t => !isTypeL t) = ba at HAR ⊢
 obtain ⟨b1, hb1⟩ : ∃ b, (decide (0 ≤ what) && decide (what < (whatWs.length : Nat))) = b := ⟨_, rfl⟩
 rw [hb1]
 have HIN := Lib.hid hb1
 clear hb1
 cases b1
 ·have e : (if !false || (what == 0 && name != []) || grants.isEmpty then false else !bg && !ba) = false := by simp
  rw [e]
  clear e
  have hbk := Bk.new w 47 #[.int .i64 what, .string ⟨name.toArray⟩, .slice Aa attrs.length ca, .slice Ag grants.length cg]
  have hbw : Below w.heap.size w (w.alloc (.cells #[.int .i64 what, .string ⟨name.toArray⟩, .slice Aa attrs.length ca, .slice Ag grants.length cg] 47)) := (Below.refl _ _).alloc (Nat.le_refl _) _
  show Calls _ _ _ _ fun e w' => e = .returned (.bool (false)) ∧ Below w.heap.size w w'
  go_enter Tryz.func108, Tryz.ntmps108
  go_upto_region 1 with fail
  have HBW := Lib.hid hbw
  have HK0 : Hid (∀ W : World, Below (w.alloc (.cells #[.int .i64 what, .string ⟨name.toArray⟩, .slice Aa attrs.length ca, .slice Ag grants.length cg] 47)).heap.size (w.alloc (.cells #[.int .i64 what, .string ⟨name.toArray⟩, .slice Aa attrs.length ca, .slice Ag grants.length cg] 47)) W → W.cell? ⟨w.heap.size, 0, none⟩ = some (.int .i64 what) ∧ W.cell? ⟨w.heap.size, 1, none⟩ = some (.string ⟨name.toArray⟩) ∧ W.cell? ⟨w.heap.size, 2, none⟩ = some (.slice Aa attrs.length ca) ∧ W.cell? ⟨w.heap.size, 3, none⟩ = some (.slice Ag grants.length cg)) := Lib.hid fun W hW => by
   have hB := hbk.below hW
   exact ⟨hB.cell 0, hB.cell 1, hB.cell 2, hB.cell 3⟩
  clear hbk hbw
  generalize w.heap.size = gb at HK0 ⊢
  generalize (w.alloc _) = w0 at HK0 HBW ⊢
  have HK : Hid (∀ W : World, Below w0.heap.size w0 W → (fun W => W.cell? ⟨gb, 0, none⟩ = some (.int .i64 what) ∧ W.cell? ⟨gb, 1, none⟩ = some (.string ⟨name.toArray⟩) ∧ W.cell? ⟨gb, 2, none⟩ = some (.slice Aa attrs.length ca) ∧ W.cell? ⟨gb, 3, none⟩ = some (.slice Ag grants.length cg) ∧ Below w0.heap.size w0 W) W) := Lib.hid fun W hW => by
   obtain ⟨k0, k1, k2, k3⟩ := HK0.out W hW
   exact ⟨k0, k1, k2, k3, hW⟩
  have hdr : Below w0.heap.size w0 w0.drew := (Below.refl _ _).drew
  refine wp_region_noPanic ?_
  refine wp_region_held_drew (S := (fun W => W.cell? ⟨gb, 0, none⟩ = some (.int .i64 what) ∧ W.cell? ⟨gb, 1, none⟩ = some (.string ⟨name.toArray⟩) ∧ W.cell? ⟨gb, 2, none⟩ = some (.slice Aa attrs.length ca) ∧ W.cell? ⟨gb, 3, none⟩ = some (.slice Ag grants.length cg) ∧ Below w0.heap.size w0 W)) (by kernel_rfl) ?_ (fun hHeld => ?_)
  ·exact HK.out _ hdr
  refine wpAnyH_take (i := 0) (v := ?v0_4) rfl (by kernel_rfl) (by kernel_rfl) (by kernel_rfl) (fun _ _ _ h => h) (Or.inl ⟨by rfl, ?y0_4⟩) hHeld ?_
  case y0_4 => (intro w hSw; (try dsimp only at hSw); go_simp; first | done | (with_reducible rfl))
  simp only [gsx, Act.put]
  refine wpAnyH_take (i := 1) (v := ?v1_4) rfl (by kernel_rfl) (by kernel_rfl) (by kernel_rfl) (fun _ _ _ h => h) (Or.inl ⟨by rfl, ?y1_4⟩) hHeld ?_
  case y1_4 => (intro w hSw; (try dsimp only at hSw); go_simp; first | done | (with_reducible rfl))
  simp only [gsx, Act.put]
  refine wpAnyH_ready (rs := [2]) (by kernel_rfl) (by simp) ?_
  refine AllReadyH.cons rfl (fun K hK => ?_) AllReadyH.nil
  go_simp
  (refine (whats_c _).mono ?_; rintro e w2 ⟨rfl, hb2x, _⟩; have hd2 := hdr.trans (hb2x.mono hdr.size))
  (try go_wp2_with fail)
  refine hK.out _ _ ?_ (fun hHeld => ?_)
  ·exact HK.out _ hd2
  clear hK K
  try simp only [gsx, Act.put]
  refine wpAnyH_ready (rs := [3]) (by kernel_rfl) (by simp) ?_
  refine AllReadyH.cons rfl (fun K hK => ?_) AllReadyH.nil
  go_simp
  (refine (in_c _ _ _ _ _).mono ?_; rintro e w3 ⟨rfl, rfl⟩; rw [HIN.out])
  (try go_wp2_with fail)
  refine hK.out _ _ ?_ (fun hHeld => ?_)
  ·exact HK.out _ hd2
  clear hK K
  try simp only [gsx, Act.put]
  refine wpAnyH_take (i := 4) (v := ?v4_4) rfl (by kernel_rfl) (by kernel_rfl) (by kernel_rfl) (fun _ _ _ h => h) (Or.inl ⟨by rfl, ?y4_4⟩) hHeld ?_
  case y4_4 => (intro w hSw; (try dsimp only at hSw); go_simp; first | done | (with_reducible rfl))
  simp only [gsx, Act.put]
  refine wpAnyH_take (i := 5) (v := ?v5_4) rfl (by kernel_rfl) (by kernel_rfl) (by kernel_rfl) (fun _ _ _ h => h) (Or.inl ⟨by rfl, ?y5_4⟩) hHeld ?_
  case y5_4 => (intro w hSw; (try dsimp only at hSw); go_simp; first | done | (with_reducible rfl))
  simp only [gsx, Act.put]
  refine wpAnyH_take (i := 6) (v := undef) rfl (by kernel_rfl) (by kernel_rfl) (by kernel_rfl) (fun _ _ _ h => h) (Or.inr ⟨by rfl, rfl⟩) hHeld ?_
  simp only [gsx, Act.put]
  refine wpAnyH_take (i := 7) (v := undef) rfl (by kernel_rfl) (by kernel_rfl) (by kernel_rfl) (fun _ _ _ h => h) (Or.inr ⟨by rfl, rfl⟩) hHeld ?_
  simp only [gsx, Act.put]
  refine wpAnyH_take (i := 8) (v := undef) rfl (by kernel_rfl) (by kernel_rfl) (by kernel_rfl) (fun _ _ _ h => h) (Or.inr ⟨by rfl, rfl⟩) hHeld ?_
  simp only [gsx, Act.put]
  refine wpAnyH_take (i := 9) (v := undef) rfl (by kernel_rfl) (by kernel_rfl) (by kernel_rfl) (fun _ _ _ h => h) (Or.inr ⟨by rfl, rfl⟩) hHeld ?_
  simp only [gsx, Act.put]
  refine wpAnyH_take (i := 10) (v := undef) rfl (by kernel_rfl) (by kernel_rfl) (by kernel_rfl) (fun _ _ _ h => h) (Or.inr ⟨by rfl, rfl⟩) hHeld ?_
  simp only [gsx, Act.put]
  refine wpAnyH_take (i := 11) (v := undef) rfl (by kernel_rfl) (by kernel_rfl) (by kernel_rfl) (fun _ _ _ h => h) (Or.inr ⟨by rfl, rfl⟩) hHeld ?_
  simp only [gsx, Act.put]
  refine wpAnyH_take (i := 12) (v := undef) rfl (by kernel_rfl) (by kernel_rfl) (by kernel_rfl) (fun _ _ _ h => h) (Or.inr ⟨by rfl, rfl⟩) hHeld ?_
  simp only [gsx, Act.put]
  refine wpAnyH_take (i := 13) (v := undef) rfl (by kernel_rfl) (by kernel_rfl) (by kernel_rfl) (fun _ _ _ h => h) (Or.inr ⟨by rfl, rfl⟩) hHeld ?_
  simp only [gsx, Act.put]
  refine wpAnyH_take (i := 14) (v := ?v14_4) rfl (by kernel_rfl) (by kernel_rfl) (by kernel_rfl) (fun _ _ _ h => h) (Or.inl ⟨by rfl, ?y14_4⟩) hHeld ?_
  case y14_4 => (intro w hSw; (try dsimp only at hSw); go_simp; first | done | (with_reducible rfl))
  simp only [gsx, Act.put]
  refine wpAnyH_take (i := 15) (v := ?v15_4) rfl (by kernel_rfl) (by kernel_rfl) (by kernel_rfl) (fun _ _ _ h => h) (Or.inl ⟨by rfl, ?y15_4⟩) hHeld ?_
  case y15_4 => (intro w hSw; (try dsimp only at hSw); go_simp; first | done | (with_reducible rfl))
  simp only [gsx, Act.put]
  refine wpAnyH_take (i := 16) (v := undef) rfl (by kernel_rfl) (by kernel_rfl) (by kernel_rfl) (fun _ _ _ h => h) (Or.inr ⟨by rfl, rfl⟩) hHeld ?_
  simp only [gsx, Act.put]
  refine wpAnyH_take (i := 17) (v := undef) rfl (by kernel_rfl) (by kernel_rfl) (by kernel_rfl) (fun _ _ _ h => h) (Or.inr ⟨by rfl, rfl⟩) hHeld ?_
  simp only [gsx, Act.put]
  refine wpAnyH_take (i := 18) (v := undef) rfl (by kernel_rfl) (by kernel_rfl) (by kernel_rfl) (fun _ _ _ h => h) (Or.inr ⟨by rfl, rfl⟩) hHeld ?_
  simp only [gsx, Act.put]
  refine wpAnyH_take (i := 19) (v := undef) rfl (by kernel_rfl) (by kernel_rfl) (by kernel_rfl) (fun _ _ _ h => h) (Or.inr ⟨by rfl, rfl⟩) hHeld ?_
  simp only [gsx, Act.put]
  refine wpAnyH_take (i := 20) (v := ?v20_4) rfl (by kernel_rfl) (by kernel_rfl) (by kernel_rfl) (fun _ _ _ h => h) (Or.inl ⟨by rfl, ?y20_4⟩) hHeld ?_
  case y20_4 => (intro w hSw; (try dsimp only at hSw); go_simp; first | done | (with_reducible rfl))
  simp only [gsx, Act.put]
  refine wpAnyH_done (by kernel_rfl) ?_ _
  refine NoPanic.normal ?_
  go_wp2_with fail
  all_goals
   go_ret
   exact ⟨rfl, HBW.out.trans (hd2.mono HBW.out.size)⟩
 ·cases hz : (what == 0)
  ·cases hne0 : grants.isEmpty
   ·have hne : grants ≠ [] := by rintro rfl; simp at hne0
    have e : (if !true || (false && name != []) || false then false else !bg && !ba) = (!bg && !ba) := by simp
    rw [e]
    clear e
    have hbk := Bk.new w 47 #[.int .i64 what, .string ⟨name.toArray⟩, .slice Aa attrs.length ca, .slice Ag grants.length cg]
    have hbw : Below w.heap.size w (w.alloc (.cells #[.int .i64 what, .string ⟨name.toArray⟩, .slice Aa attrs.length ca, .slice Ag grants.length cg] 47)) := (Below.refl _ _).alloc (Nat.le_refl _) _
    show Calls _ _ _ _ fun e w' => e = .returned (.bool (!bg && !ba)) ∧ Below w.heap.size w w'
    go_enter Tryz.func108, Tryz.ntmps108
    go_upto_region 1 with fail
    have HBW := Lib.hid hbw
    have HK0 : Hid (∀ W : World, Below (w.alloc (.cells #[.int .i64 what, .string ⟨name.toArray⟩, .slice Aa attrs.length ca, .slice Ag grants.length cg] 47)).heap.size (w.alloc (.cells #[.int .i64 what, .string ⟨name.toArray⟩, .slice Aa attrs.length ca, .slice Ag grants.length cg] 47)) W → W.cell? ⟨w.heap.size, 0, none⟩ = some (.int .i64 what) ∧ W.cell? ⟨w.heap.size, 1, none⟩ = some (.string ⟨name.toArray⟩) ∧ W.cell? ⟨w.heap.size, 2, none⟩ = some (.slice Aa attrs.length ca) ∧ W.cell? ⟨w.heap.size, 3, none⟩ = some (.slice Ag grants.length cg)) := Lib.hid fun W hW => by
     have hB := hbk.below hW
     exact ⟨hB.cell 0, hB.cell 1, hB.cell 2, hB.cell 3⟩
    clear hbk hbw
    generalize w.heap.size = gb at HK0 ⊢
    generalize (w.alloc _) = w0 at HK0 HBW ⊢
    have HK : Hid (∀ W : World, Below w0.heap.size w0 W → (fun W => W.cell? ⟨gb, 0, none⟩ = some (.int .i64 what) ∧ W.cell? ⟨gb, 1, none⟩ = some (.string ⟨name.toArray⟩) ∧ W.cell? ⟨gb, 2, none⟩ = some (.slice Aa attrs.length ca) ∧ W.cell? ⟨gb, 3, none⟩ = some (.slice Ag grants.length cg) ∧ Below w0.heap.size w0 W) W) := Lib.hid fun W hW => by
     obtain ⟨k0, k1, k2, k3⟩ := HK0.out W hW
     exact ⟨k0, k1, k2, k3, hW⟩
    have hdr : Below w0.heap.size w0 w0.drew := (Below.refl _ _).drew
    refine wp_region_noPanic ?_
    refine wp_region_held_drew (S := (fun W => W.cell? ⟨gb, 0, none⟩ = some (.int .i64 what) ∧ W.cell? ⟨gb, 1, none⟩ = some (.string ⟨name.toArray⟩) ∧ W.cell? ⟨gb, 2, none⟩ = some (.slice Aa attrs.length ca) ∧ W.cell? ⟨gb, 3, none⟩ = some (.slice Ag grants.length cg) ∧ Below w0.heap.size w0 W)) (by kernel_rfl) ?_ (fun hHeld => ?_)
    ·exact HK.out _ hdr
    refine wpAnyH_take (i := 0) (v := ?v0_5) rfl (by kernel_rfl) (by kernel_rfl) (by kernel_rfl) (fun _ _ _ h => h) (Or.inl ⟨by rfl, ?y0_5⟩) hHeld ?_
    case y0_5 => (intro w hSw; (try dsimp only at hSw); go_simp; first | done | (with_reducible rfl))
    simp only [gsx, Act.put]
    refine wpAnyH_take (i := 1) (v := ?v1_5) rfl (by kernel_rfl) (by kernel_rfl) (by kernel_rfl) (fun _ _ _ h => h) (Or.inl ⟨by rfl, ?y1_5⟩) hHeld ?_
    case y1_5 => (intro w hSw; (try dsimp only at hSw); go_simp; first | done | (with_reducible rfl))
    simp only [gsx, Act.put]
    refine wpAnyH_ready (rs := [2]) (by kernel_rfl) (by simp) ?_
    refine AllReadyH.cons rfl (fun K hK => ?_) AllReadyH.nil
    go_simp
    (refine (whats_c _).mono ?_; rintro e w2 ⟨rfl, hb2x, _⟩; have hd2 := hdr.trans (hb2x.mono hdr.size))
    (try go_wp2_with fail)
    refine hK.out _ _ ?_ (fun hHeld => ?_)
    ·exact HK.out _ hd2
    clear hK K
    try simp only [gsx, Act.put]
    refine wpAnyH_ready (rs := [3]) (by kernel_rfl) (by simp) ?_
    refine AllReadyH.cons rfl (fun K hK => ?_) AllReadyH.nil
    go_simp
    (refine (in_c _ _ _ _ _).mono ?_; rintro e w3 ⟨rfl, rfl⟩; rw [HIN.out])
    (try go_wp2_with fail)
    refine hK.out _ _ ?_ (fun hHeld => ?_)
    ·exact HK.out _ hd2
    clear hK K
    try simp only [gsx, Act.put]
    refine wpAnyH_take (i := 4) (v := .bool false) rfl (by kernel_rfl) (by kernel_rfl) (by kernel_rfl) (fun _ _ _ h => h) (Or.inl ⟨by rfl, ?y4_5⟩) hHeld ?_
    case y4_5 => (intro w hSw; (try dsimp only at hSw); go_simp; first | done | (with_reducible rfl))
    simp only [gsx, Act.put]
    refine wpAnyH_take (i := 5) (v := .bool false) rfl (by kernel_rfl) (by kernel_rfl) (by kernel_rfl) (fun _ _ _ h => h) (Or.inl ⟨by rfl, ?y5_5⟩) hHeld ?_
    case y5_5 => (intro w hSw; (try dsimp only at hSw); go_simp; first | done | (with_reducible rfl))
    simp only [gsx, Act.put]
    refine wpAnyH_take (i := 6) (v := ?v6_5) rfl (by kernel_rfl) (by kernel_rfl) (by kernel_rfl) (fun _ _ _ h => h) (Or.inl ⟨by rfl, ?y6_5⟩) hHeld ?_
    case y6_5 => (intro w hSw; (try dsimp only at hSw); go_simp; first | done | (with_reducible rfl))
    simp only [gsx, Act.put]
    refine wpAnyH_take (i := 7) (v := ?v7_5) rfl (by kernel_rfl) (by kernel_rfl) (by kernel_rfl) (fun _ _ _ h => h) (Or.inl ⟨by rfl, ?y7_5⟩) hHeld ?_
    case y7_5 => (intro w hSw; (try dsimp only at hSw); go_simp; first | done | (with_reducible rfl))
    simp only [gsx, Act.put]
    refine wpAnyH_take (i := 8) (v := .bool false) rfl (by kernel_rfl) (by kernel_rfl) (by kernel_rfl) (fun _ _ _ h => h) (Or.inl ⟨by rfl, ?y8_5⟩) hHeld ?_
    case y8_5 => (intro w hSw; (try dsimp only at hSw); go_simp; first | done | (with_reducible rfl))
    simp only [gsx, Act.put]
    refine wpAnyH_take (i := 9) (v := .bool false) rfl (by kernel_rfl) (by kernel_rfl) (by kernel_rfl) (fun _ _ _ h => h) (Or.inl ⟨by rfl, ?y9_5⟩) hHeld ?_
    case y9_5 => (intro w hSw; (try dsimp only at hSw); go_simp; first | done | (with_reducible rfl))
    simp only [gsx, Act.put]
    refine wpAnyH_take (i := 10) (v := undef) rfl (by kernel_rfl) (by kernel_rfl) (by kernel_rfl) (fun _ _ _ h => h) (Or.inr ⟨by rfl, rfl⟩) hHeld ?_
    simp only [gsx, Act.put]
    refine wpAnyH_take (i := 11) (v := undef) rfl (by kernel_rfl) (by kernel_rfl) (by kernel_rfl) (fun _ _ _ h => h) (Or.inr ⟨by rfl, rfl⟩) hHeld ?_
    simp only [gsx, Act.put]
    refine wpAnyH_take (i := 12) (v := undef) rfl (by kernel_rfl) (by kernel_rfl) (by kernel_rfl) (fun _ _ _ h => h) (Or.inr ⟨by rfl, rfl⟩) hHeld ?_
    simp only [gsx, Act.put]
    refine wpAnyH_take (i := 13) (v := .bool false) rfl (by kernel_rfl) (by kernel_rfl) (by kernel_rfl) (fun _ _ _ h => h) (Or.inl ⟨by rfl, ?y13_5⟩) hHeld ?_
    case y13_5 => (intro w hSw; (try dsimp only at hSw); go_simp; first | done | (with_reducible rfl))
    simp only [gsx, Act.put]
    refine wpAnyH_take (i := 14) (v := .bool false) rfl (by kernel_rfl) (by kernel_rfl) (by kernel_rfl) (fun _ _ _ h => h) (Or.inl ⟨by rfl, ?y14_5⟩) hHeld ?_
    case y14_5 => (intro w hSw; (try dsimp only at hSw); go_simp; first | done | (with_reducible rfl))
    simp only [gsx, Act.put]
    refine wpAnyH_take (i := 15) (v := .bool false) rfl (by kernel_rfl) (by kernel_rfl) (by kernel_rfl) (fun _ _ _ h => h) (Or.inl ⟨by rfl, ?y15_5⟩) hHeld ?_
    case y15_5 => (intro w hSw; (try dsimp only at hSw); go_simp; first | done | (with_reducible rfl))
    simp only [gsx, Act.put]
    refine wpAnyH_take (i := 16) (v := ?v16_5) rfl (by kernel_rfl) (by kernel_rfl) (by kernel_rfl) (fun _ _ _ h => h) (Or.inl ⟨by rfl, ?y16_5⟩) hHeld ?_
    case y16_5 => (intro w hSw; (try dsimp only at hSw); go_simp; first | done | (with_reducible rfl))
    simp only [gsx, Act.put]
    refine wpAnyH_take (i := 17) (v := ?v17_5) rfl (by kernel_rfl) (by kernel_rfl) (by kernel_rfl) (fun _ _ _ h => h) (Or.inl ⟨by rfl, ?y17_5⟩) hHeld ?_
    case y17_5 => (intro w hSw; (try dsimp only at hSw); go_simp; first | done | (with_reducible rfl))
    simp only [gsx, Act.put]
    refine wpAnyH_take (i := 18) (v := ?v18_5) rfl (by kernel_rfl) (by kernel_rfl) (by kernel_rfl) (fun _ _ _ h => h) (Or.inl ⟨by rfl, ?y18_5⟩) hHeld ?_
    case y18_5 => (intro w hSw; (try dsimp only at hSw); go_simp; first | done | (with_reducible rfl))
    simp only [gsx, Act.put]
    refine wpAnyH_take (i := 19) (v := ?v19_5) rfl (by kernel_rfl) (by kernel_rfl) (by kernel_rfl) (fun _ _ _ h => h) (Or.inl ⟨by rfl, ?y19_5⟩) hHeld ?_
    case y19_5 => (intro w hSw; (try dsimp only at hSw); go_simp; first | done | (with_reducible rfl))
    simp only [gsx, Act.put]
    refine wpAnyH_take (i := 20) (v := ?v20_5) rfl (by kernel_rfl) (by kernel_rfl) (by kernel_rfl) (fun _ _ _ h => h) (Or.inl ⟨by rfl, ?y20_5⟩) hHeld ?_
    case y20_5 => (intro w hSw; (try dsimp only at hSw); go_simp; first | done | (with_reducible rfl))
    simp only [gsx, Act.put]
    refine wpAnyH_done (by kernel_rfl) ?_ _
    refine NoPanic.normal ?_
    obtain ⟨k0, k1, k2, k3, _⟩ := HK.out _ hd2
    have hgl : ((grants.length : Int) == 0) = false := by rw [beq_eq_false_iff_ne]; have := List.length_pos_iff.2 hne; omega
    have HG : Hid (Calls Tryz.prog 176 #[.slice Ag grants.length cg, .func (.func 175) #[] #[]] w2 fun e w' => e = .returned (.bool bg) ∧ Below w2.heap.size w2 w') := Lib.hid (HGR.out w2 (HBW.out.trans (hd2.mono HBW.out.size)))
    have HA : Hid (∀ W : World, Below w2.heap.size w2 W → Calls Tryz.prog 25 #[.slice Aa attrs.length ca, .func (.func 177) #[] #[]] W fun e w' => e = .returned (.bool ba) ∧ Below W.heap.size W w') := Lib.hid fun W hW => HAR.out W ((HBW.out.trans (hd2.mono HBW.out.size)).trans (hW.mono (Nat.le_trans HBW.out.size hd2.size)))
    have HK2 : Hid (∀ W : World, Below w2.heap.size w2 W → W.cell? ⟨gb, 2, none⟩ = some (.slice Aa attrs.length ca)) := Lib.hid fun W hW => (HK0.out W (hd2.trans (hW.mono hd2.size))).2.2.1
    clear HGR HAR HK0 HK
    cases bg
    ·go_wp2_with (first | (go_at_call 176; refine HG.out.mono ?_; rintro e w3 ⟨rfl, hb3⟩; have c2 := HK2.out _ hb3) | (go_at_call 25; refine (HA.out _ hb3).mono ?_; rintro e w4 ⟨rfl, hb4⟩))
     all_goals
      go_ret
      exact ⟨by cases ba <;> rfl, HBW.out.trans ((hd2.trans ((hb3.trans (hb4.mono hb3.size)).mono hd2.size)).mono HBW.out.size)⟩
    ·go_wp2_with (first | (go_at_call 176; refine HG.out.mono ?_; rintro e w3 ⟨rfl, hb3⟩))
     all_goals
      go_ret
      exact ⟨rfl, HBW.out.trans ((hd2.trans (hb3.mono hd2.size)).mono HBW.out.size)⟩
   ·obtain rfl : grants = [] := by simpa using hne0
    have e : (if !true || (false && name != []) || true then false else !bg && !ba) = false := by simp
    rw [e]
    clear e
    have hbk := Bk.new w 47 #[.int .i64 what, .string ⟨name.toArray⟩, .slice Aa attrs.length ca, .slice Ag ([] : List GrantS).length cg]
    have hbw : Below w.heap.size w (w.alloc (.cells #[.int .i64 what, .string ⟨name.toArray⟩, .slice Aa attrs.length ca, .slice Ag ([] : List GrantS).length cg] 47)) := (Below.refl _ _).alloc (Nat.le_refl _) _
    show Calls _ _ _ _ fun e w' => e = .returned (.bool (false)) ∧ Below w.heap.size w w'
    go_enter Tryz.func108, Tryz.ntmps108
    go_upto_region 1 with fail
    have HBW := Lib.hid hbw
    have HK0 : Hid (∀ W : World, Below (w.alloc (.cells #[.int .i64 what, .string ⟨name.toArray⟩, .slice Aa attrs.length ca, .slice Ag ([] : List GrantS).length cg] 47)).heap.size (w.alloc (.cells #[.int .i64 what, .string ⟨name.toArray⟩, .slice Aa attrs.length ca, .slice Ag ([] : List GrantS).length cg] 47)) W → W.cell? ⟨w.heap.size, 0, none⟩ = some (.int .i64 what) ∧ W.cell? ⟨w.heap.size, 1, none⟩ = some (.string ⟨name.toArray⟩) ∧ W.cell? ⟨w.heap.size, 2, none⟩ = some (.slice Aa attrs.length ca) ∧ W.cell? ⟨w.heap.size, 3, none⟩ = some (.slice Ag ([] : List GrantS).length cg)) := Lib.hid fun W hW => by
     have hB := hbk.below hW
     exact ⟨hB.cell 0, hB.cell 1, hB.cell 2, hB.cell 3⟩
    clear hbk hbw
    generalize w.heap.size = gb at HK0 ⊢
    generalize (w.alloc _) = w0 at HK0 HBW ⊢
    have HK : Hid (∀ W : World, Below w0.heap.size w0 W → (fun W => W.cell? ⟨gb, 0, none⟩ = some (.int .i64 what) ∧ W.cell? ⟨gb, 1, none⟩ = some (.string ⟨name.toArray⟩) ∧ W.cell? ⟨gb, 2, none⟩ = some (.slice Aa attrs.length ca) ∧ W.cell? ⟨gb, 3, none⟩ = some (.slice Ag ([] : List GrantS).length cg) ∧ Below w0.heap.size w0 W) W) := Lib.hid fun W hW => by
     obtain ⟨k0, k1, k2, k3⟩ := HK0.out W hW
     exact ⟨k0, k1, k2, k3, hW⟩
    have hdr : Below w0.heap.size w0 w0.drew := (Below.refl _ _).drew
    refine wp_region_noPanic ?_
    refine wp_region_held_drew (S := (fun W => W.cell? ⟨gb, 0, none⟩ = some (.int .i64 what) ∧ W.cell? ⟨gb, 1, none⟩ = some (.string ⟨name.toArray⟩) ∧ W.cell? ⟨gb, 2, none⟩ = some (.slice Aa attrs.length ca) ∧ W.cell? ⟨gb, 3, none⟩ = some (.slice Ag ([] : List GrantS).length cg) ∧ Below w0.heap.size w0 W)) (by kernel_rfl) ?_ (fun hHeld => ?_)
    ·exact HK.out _ hdr
    refine wpAnyH_take (i := 0) (v := ?v0_6) rfl (by kernel_rfl) (by kernel_rfl) (by kernel_rfl) (fun _ _ _ h => h) (Or.inl ⟨by rfl, ?y0_6⟩) hHeld ?_
    case y0_6 => (intro w hSw; (try dsimp only at hSw); go_simp; first | done | (with_reducible rfl))
    simp only [gsx, Act.put]
    refine wpAnyH_take (i := 1) (v := ?v1_6) rfl (by kernel_rfl) (by kernel_rfl) (by kernel_rfl) (fun _ _ _ h => h) (Or.inl ⟨by rfl, ?y1_6⟩) hHeld ?_
    case y1_6 => (intro w hSw; (try dsimp only at hSw); go_simp; first | done | (with_reducible rfl))
    simp only [gsx, Act.put]
    refine wpAnyH_ready (rs := [2]) (by kernel_rfl) (by simp) ?_
    refine AllReadyH.cons rfl (fun K hK => ?_) AllReadyH.nil
    go_simp
    (refine (whats_c _).mono ?_; rintro e w2 ⟨rfl, hb2x, _⟩; have hd2 := hdr.trans (hb2x.mono hdr.size))
    (try go_wp2_with fail)
    refine hK.out _ _ ?_ (fun hHeld => ?_)
    ·exact HK.out _ hd2
    clear hK K
    try simp only [gsx, Act.put]
    refine wpAnyH_ready (rs := [3]) (by kernel_rfl) (by simp) ?_
    refine AllReadyH.cons rfl (fun K hK => ?_) AllReadyH.nil
    go_simp
    (refine (in_c _ _ _ _ _).mono ?_; rintro e w3 ⟨rfl, rfl⟩; rw [HIN.out])
    (try go_wp2_with fail)
    refine hK.out _ _ ?_ (fun hHeld => ?_)
    ·exact HK.out _ hd2
    clear hK K
    try simp only [gsx, Act.put]
    refine wpAnyH_take (i := 4) (v := .bool false) rfl (by kernel_rfl) (by kernel_rfl) (by kernel_rfl) (fun _ _ _ h => h) (Or.inl ⟨by rfl, ?y4_6⟩) hHeld ?_
    case y4_6 => (intro w hSw; (try dsimp only at hSw); go_simp; first | done | (with_reducible rfl))
    simp only [gsx, Act.put]
    refine wpAnyH_take (i := 5) (v := .bool false) rfl (by kernel_rfl) (by kernel_rfl) (by kernel_rfl) (fun _ _ _ h => h) (Or.inl ⟨by rfl, ?y5_6⟩) hHeld ?_
    case y5_6 => (intro w hSw; (try dsimp only at hSw); go_simp; first | done | (with_reducible rfl))
    simp only [gsx, Act.put]
    refine wpAnyH_take (i := 6) (v := ?v6_6) rfl (by kernel_rfl) (by kernel_rfl) (by kernel_rfl) (fun _ _ _ h => h) (Or.inl ⟨by rfl, ?y6_6⟩) hHeld ?_
    case y6_6 => (intro w hSw; (try dsimp only at hSw); go_simp; first | done | (with_reducible rfl))
    simp only [gsx, Act.put]
    refine wpAnyH_take (i := 7) (v := ?v7_6) rfl (by kernel_rfl) (by kernel_rfl) (by kernel_rfl) (fun _ _ _ h => h) (Or.inl ⟨by rfl, ?y7_6⟩) hHeld ?_
    case y7_6 => (intro w hSw; (try dsimp only at hSw); go_simp; first | done | (with_reducible rfl))
    simp only [gsx, Act.put]
    refine wpAnyH_take (i := 8) (v := .bool false) rfl (by kernel_rfl) (by kernel_rfl) (by kernel_rfl) (fun _ _ _ h => h) (Or.inl ⟨by rfl, ?y8_6⟩) hHeld ?_
    case y8_6 => (intro w hSw; (try dsimp only at hSw); go_simp; first | done | (with_reducible rfl))
    simp only [gsx, Act.put]
    refine wpAnyH_take (i := 9) (v := .bool false) rfl (by kernel_rfl) (by kernel_rfl) (by kernel_rfl) (fun _ _ _ h => h) (Or.inl ⟨by rfl, ?y9_6⟩) hHeld ?_
    case y9_6 => (intro w hSw; (try dsimp only at hSw); go_simp; first | done | (with_reducible rfl))
    simp only [gsx, Act.put]
    refine wpAnyH_take (i := 10) (v := undef) rfl (by kernel_rfl) (by kernel_rfl) (by kernel_rfl) (fun _ _ _ h => h) (Or.inr ⟨by rfl, rfl⟩) hHeld ?_
    simp only [gsx, Act.put]
    refine wpAnyH_take (i := 11) (v := undef) rfl (by kernel_rfl) (by kernel_rfl) (by kernel_rfl) (fun _ _ _ h => h) (Or.inr ⟨by rfl, rfl⟩) hHeld ?_
    simp only [gsx, Act.put]
    refine wpAnyH_take (i := 12) (v := undef) rfl (by kernel_rfl) (by kernel_rfl) (by kernel_rfl) (fun _ _ _ h => h) (Or.inr ⟨by rfl, rfl⟩) hHeld ?_
    simp only [gsx, Act.put]
    refine wpAnyH_take (i := 13) (v := .bool false) rfl (by kernel_rfl) (by kernel_rfl) (by kernel_rfl) (fun _ _ _ h => h) (Or.inl ⟨by rfl, ?y13_6⟩) hHeld ?_
    case y13_6 => (intro w hSw; (try dsimp only at hSw); go_simp; first | done | (with_reducible rfl))
    simp only [gsx, Act.put]
    refine wpAnyH_take (i := 14) (v := .bool false) rfl (by kernel_rfl) (by kernel_rfl) (by kernel_rfl) (fun _ _ _ h => h) (Or.inl ⟨by rfl, ?y14_6⟩) hHeld ?_
    case y14_6 => (intro w hSw; (try dsimp only at hSw); go_simp; first | done | (with_reducible rfl))
    simp only [gsx, Act.put]
    refine wpAnyH_take (i := 15) (v := .bool false) rfl (by kernel_rfl) (by kernel_rfl) (by kernel_rfl) (fun _ _ _ h => h) (Or.inl ⟨by rfl, ?y15_6⟩) hHeld ?_
    case y15_6 => (intro w hSw; (try dsimp only at hSw); go_simp; first | done | (with_reducible rfl))
    simp only [gsx, Act.put]
    refine wpAnyH_take (i := 16) (v := ?v16_6) rfl (by kernel_rfl) (by kernel_rfl) (by kernel_rfl) (fun _ _ _ h => h) (Or.inl ⟨by rfl, ?y16_6⟩) hHeld ?_
    case y16_6 => (intro w hSw; (try dsimp only at hSw); go_simp; first | done | (with_reducible rfl))
    simp only [gsx, Act.put]
    refine wpAnyH_take (i := 17) (v := ?v17_6) rfl (by kernel_rfl) (by kernel_rfl) (by kernel_rfl) (fun _ _ _ h => h) (Or.inl ⟨by rfl, ?y17_6⟩) hHeld ?_
    case y17_6 => (intro w hSw; (try dsimp only at hSw); go_simp; first | done | (with_reducible rfl))
    simp only [gsx, Act.put]
    refine wpAnyH_take (i := 18) (v := ?v18_6) rfl (by kernel_rfl) (by kernel_rfl) (by kernel_rfl) (fun _ _ _ h => h) (Or.inl ⟨by rfl, ?y18_6⟩) hHeld ?_
    case y18_6 => (intro w hSw; (try dsimp only at hSw); go_simp; first | done | (with_reducible rfl))
    simp only [gsx, Act.put]
    refine wpAnyH_take (i := 19) (v := ?v19_6) rfl (by kernel_rfl) (by kernel_rfl) (by kernel_rfl) (fun _ _ _ h => h) (Or.inl ⟨by rfl, ?y19_6⟩) hHeld ?_
    case y19_6 => (intro w hSw; (try dsimp only at hSw); go_simp; first | done | (with_reducible rfl))
    simp only [gsx, Act.put]
    refine wpAnyH_take (i := 20) (v := ?v20_6) rfl (by kernel_rfl) (by kernel_rfl) (by kernel_rfl) (fun _ _ _ h => h) (Or.inl ⟨by rfl, ?y20_6⟩) hHeld ?_
    case y20_6 => (intro w hSw; (try dsimp only at hSw); go_simp; first | done | (with_reducible rfl))
    simp only [gsx, Act.put]
    refine wpAnyH_done (by kernel_rfl) ?_ _
    refine NoPanic.normal ?_
    go_wp2_with fail
    all_goals
     go_ret
     exact ⟨rfl, HBW.out.trans (hd2.mono HBW.out.size)⟩
  ·cases name with
   | cons c name =>
    have e : (if !true || (true && (c :: name) != []) || grants.isEmpty then false else !bg && !ba) = false := by simp
    rw [e]
    clear e
    have hbk := Bk.new w 47 #[.int .i64 what, .string ⟨(c :: name).toArray⟩, .slice Aa attrs.length ca, .slice Ag grants.length cg]
    have hbw : Below w.heap.size w (w.alloc (.cells #[.int .i64 what, .string ⟨(c :: name).toArray⟩, .slice Aa attrs.length ca, .slice Ag grants.length cg] 47)) := (Below.refl _ _).alloc (Nat.le_refl _) _
    show Calls _ _ _ _ fun e w' => e = .returned (.bool (false)) ∧ Below w.heap.size w w'
    go_enter Tryz.func108, Tryz.ntmps108
    go_upto_region 1 with fail
    have HBW := Lib.hid hbw
    have HK0 : Hid (∀ W : World, Below (w.alloc (.cells #[.int .i64 what, .string ⟨(c :: name).toArray⟩, .slice Aa attrs.length ca, .slice Ag grants.length cg] 47)).heap.size (w.alloc (.cells #[.int .i64 what, .string ⟨(c :: name).toArray⟩, .slice Aa attrs.length ca, .slice Ag grants.length cg] 47)) W → W.cell? ⟨w.heap.size, 0, none⟩ = some (.int .i64 what) ∧ W.cell? ⟨w.heap.size, 1, none⟩ = some (.string ⟨(c :: name).toArray⟩) ∧ W.cell? ⟨w.heap.size, 2, none⟩ = some (.slice Aa attrs.length ca) ∧ W.cell? ⟨w.heap.size, 3, none⟩ = some (.slice Ag grants.length cg)) := Lib.hid fun W hW => by
     have hB := hbk.below hW
     exact ⟨hB.cell 0, hB.cell 1, hB.cell 2, hB.cell 3⟩
    clear hbk hbw
    generalize w.heap.size = gb at HK0 ⊢
    generalize (w.alloc _) = w0 at HK0 HBW ⊢
    have HK : Hid (∀ W : World, Below w0.heap.size w0 W → (fun W => W.cell? ⟨gb, 0, none⟩ = some (.int .i64 what) ∧ W.cell? ⟨gb, 1, none⟩ = some (.string ⟨(c :: name).toArray⟩) ∧ W.cell? ⟨gb, 2, none⟩ = some (.slice Aa attrs.length ca) ∧ W.cell? ⟨gb, 3, none⟩ = some (.slice Ag grants.length cg) ∧ Below w0.heap.size w0 W) W) := Lib.hid fun W hW => by
     obtain ⟨k0, k1, k2, k3⟩ := HK0.out W hW
     exact ⟨k0, k1, k2, k3, hW⟩
    have hdr : Below w0.heap.size w0 w0.drew := (Below.refl _ _).drew
    refine wp_region_noPanic ?_
    refine wp_region_held_drew (S := (fun W => W.cell? ⟨gb, 0, none⟩ = some (.int .i64 what) ∧ W.cell? ⟨gb, 1, none⟩ = some (.string ⟨(c :: name).toArray⟩) ∧ W.cell? ⟨gb, 2, none⟩ = some (.slice Aa attrs.length ca) ∧ W.cell? ⟨gb, 3, none⟩ = some (.slice Ag grants.length cg) ∧ Below w0.heap.size w0 W)) (by kernel_rfl) ?_ (fun hHeld => ?_)
    ·exact HK.out _ hdr
    refine wpAnyH_take (i := 0) (v := ?v0_7) rfl (by kernel_rfl) (by kernel_rfl) (by kernel_rfl) (fun _ _ _ h => h) (Or.inl ⟨by rfl, ?y0_7⟩) hHeld ?_
    case y0_7 => (intro w hSw; (try dsimp only at hSw); go_simp; first | done | (with_reducible rfl))
    simp only [gsx, Act.put]
    refine wpAnyH_take (i := 1) (v := ?v1_7) rfl (by kernel_rfl) (by kernel_rfl) (by kernel_rfl) (fun _ _ _ h => h) (Or.inl ⟨by rfl, ?y1_7⟩) hHeld ?_
    case y1_7 => (intro w hSw; (try dsimp only at hSw); go_simp; first | done | (with_reducible rfl))
    simp only [gsx, Act.put]
    refine wpAnyH_ready (rs := [2]) (by kernel_rfl) (by simp) ?_
    refine AllReadyH.cons rfl (fun K hK => ?_) AllReadyH.nil
    go_simp
    (refine (whats_c _).mono ?_; rintro e w2 ⟨rfl, hb2x, _⟩; have hd2 := hdr.trans (hb2x.mono hdr.size))
    (try go_wp2_with fail)
    refine hK.out _ _ ?_ (fun hHeld => ?_)
    ·exact HK.out _ hd2
    clear hK K
    try simp only [gsx, Act.put]
    refine wpAnyH_ready (rs := [3]) (by kernel_rfl) (by simp) ?_
    refine AllReadyH.cons rfl (fun K hK => ?_) AllReadyH.nil
    go_simp
    (refine (in_c _ _ _ _ _).mono ?_; rintro e w3 ⟨rfl, rfl⟩; rw [HIN.out])
    (try go_wp2_with fail)
    refine hK.out _ _ ?_ (fun hHeld => ?_)
    ·exact HK.out _ hd2
    clear hK K
    try simp only [gsx, Act.put]
    refine wpAnyH_take (i := 4) (v := .bool false) rfl (by kernel_rfl) (by kernel_rfl) (by kernel_rfl) (fun _ _ _ h => h) (Or.inl ⟨by rfl, ?y4_7⟩) hHeld ?_
    case y4_7 => (intro w hSw; (try dsimp only at hSw); go_simp; first | done | (with_reducible rfl))
    simp only [gsx, Act.put]
    refine wpAnyH_take (i := 5) (v := .bool false) rfl (by kernel_rfl) (by kernel_rfl) (by kernel_rfl) (fun _ _ _ h => h) (Or.inl ⟨by rfl, ?y5_7⟩) hHeld ?_
    case y5_7 => (intro w hSw; (try dsimp only at hSw); go_simp; first | done | (with_reducible rfl))
    simp only [gsx, Act.put]
    refine wpAnyH_take (i := 6) (v := ?v6_7) rfl (by kernel_rfl) (by kernel_rfl) (by kernel_rfl) (fun _ _ _ h => h) (Or.inl ⟨by rfl, ?y6_7⟩) hHeld ?_
    case y6_7 => (intro w hSw; (try dsimp only at hSw); go_simp; first | done | (with_reducible rfl))
    simp only [gsx, Act.put]
    refine wpAnyH_take (i := 7) (v := ?v7_7) rfl (by kernel_rfl) (by kernel_rfl) (by kernel_rfl) (fun _ _ _ h => h) (Or.inl ⟨by rfl, ?y7_7⟩) hHeld ?_
    case y7_7 => (intro w hSw; (try dsimp only at hSw); go_simp; first | done | (with_reducible rfl))
    simp only [gsx, Act.put]
    refine wpAnyH_take (i := 8) (v := .bool true) rfl (by kernel_rfl) (by kernel_rfl) (by kernel_rfl) (fun _ _ _ h => h) (Or.inl ⟨by rfl, ?y8_7⟩) hHeld ?_
    case y8_7 => (intro w hSw; (try dsimp only at hSw); go_simp; first | done | (with_reducible rfl))
    simp only [gsx, Act.put]
    refine wpAnyH_take (i := 9) (v := ?v9_7) rfl (by kernel_rfl) (by kernel_rfl) (by kernel_rfl) (fun _ _ _ h => h) (Or.inl ⟨by rfl, ?y9_7⟩) hHeld ?_
    case y9_7 => (intro w hSw; (try dsimp only at hSw); go_simp; first | done | (with_reducible rfl))
    simp only [gsx, Act.put]
    refine wpAnyH_take (i := 10) (v := ?v10_7) rfl (by kernel_rfl) (by kernel_rfl) (by kernel_rfl) (fun _ _ _ h => h) (Or.inl ⟨by rfl, ?y10_7⟩) hHeld ?_
    case y10_7 => (intro w hSw; (try dsimp only at hSw); go_simp; first | done | (with_reducible rfl))
    simp only [gsx, Act.put]
    refine wpAnyH_take (i := 11) (v := ?v11_7) rfl (by kernel_rfl) (by kernel_rfl) (by kernel_rfl) (fun _ _ _ h => h) (Or.inl ⟨by rfl, ?y11_7⟩) hHeld ?_
    case y11_7 => (intro w hSw; (try dsimp only at hSw); go_simp; first | done | (with_reducible rfl))
    simp only [gsx, Act.put]
    refine wpAnyH_take (i := 12) (v := .bool true) rfl (by kernel_rfl) (by kernel_rfl) (by kernel_rfl) (fun _ _ _ h => h) (Or.inl ⟨by rfl, ?y12_7⟩) hHeld ?_
    case y12_7 => (intro w hSw; (try dsimp only at hSw); go_simp; first | done | (with_reducible rfl))
    simp only [gsx, Act.put]
    refine wpAnyH_take (i := 13) (v := ?v13_7) rfl (by kernel_rfl) (by kernel_rfl) (by kernel_rfl) (fun _ _ _ h => h) (Or.inl ⟨by rfl, ?y13_7⟩) hHeld ?_
    case y13_7 => (intro w hSw; (try dsimp only at hSw); go_simp; first | done | (with_reducible rfl))
    simp only [gsx, Act.put]
    refine wpAnyH_take (i := 14) (v := ?v14_7) rfl (by kernel_rfl) (by kernel_rfl) (by kernel_rfl) (fun _ _ _ h => h) (Or.inl ⟨by rfl, ?y14_7⟩) hHeld ?_
    case y14_7 => (intro w hSw; (try dsimp only at hSw); go_simp; first | done | (with_reducible rfl))
    simp only [gsx, Act.put]
    refine wpAnyH_take (i := 15) (v := ?v15_7) rfl (by kernel_rfl) (by kernel_rfl) (by kernel_rfl) (fun _ _ _ h => h) (Or.inl ⟨by rfl, ?y15_7⟩) hHeld ?_
    case y15_7 => (intro w hSw; (try dsimp only at hSw); go_simp; first | done | (with_reducible rfl))
    simp only [gsx, Act.put]
    refine wpAnyH_take (i := 16) (v := undef) rfl (by kernel_rfl) (by kernel_rfl) (by kernel_rfl) (fun _ _ _ h => h) (Or.inr ⟨by rfl, rfl⟩) hHeld ?_
    simp only [gsx, Act.put]
    refine wpAnyH_take (i := 17) (v := undef) rfl (by kernel_rfl) (by kernel_rfl) (by kernel_rfl) (fun _ _ _ h => h) (Or.inr ⟨by rfl, rfl⟩) hHeld ?_
    simp only [gsx, Act.put]
    refine wpAnyH_take (i := 18) (v := undef) rfl (by kernel_rfl) (by kernel_rfl) (by kernel_rfl) (fun _ _ _ h => h) (Or.inr ⟨by rfl, rfl⟩) hHeld ?_
    simp only [gsx, Act.put]
    refine wpAnyH_take (i := 19) (v := undef) rfl (by kernel_rfl) (by kernel_rfl) (by kernel_rfl) (fun _ _ _ h => h) (Or.inr ⟨by rfl, rfl⟩) hHeld ?_
    simp only [gsx, Act.put]
    refine wpAnyH_take (i := 20) (v := ?v20_7) rfl (by kernel_rfl) (by kernel_rfl) (by kernel_rfl) (fun _ _ _ h => h) (Or.inl ⟨by rfl, ?y20_7⟩) hHeld ?_
    case y20_7 => (intro w hSw; (try dsimp only at hSw); go_simp; first | done | (with_reducible rfl))
    simp only [gsx, Act.put]
    refine wpAnyH_done (by kernel_rfl) ?_ _
    refine NoPanic.normal ?_
    go_wp2_with fail
    all_goals
     go_ret
     exact ⟨rfl, HBW.out.trans (hd2.mono HBW.out.size)⟩
   | nil =>
    cases hne0 : grants.isEmpty
    ·have hne : grants ≠ [] := by rintro rfl; simp at hne0
     have e : (if !true || (true && ([] : List UInt8) != []) || false then false else !bg && !ba) = (!bg && !ba) := by simp
     rw [e]
     clear e
     have hbk := Bk.new w 47 #[.int .i64 what, .string ⟨([] : List UInt8).toArray⟩, .slice Aa attrs.length ca, .slice Ag grants.length cg]
     have hbw : Below w.heap.size w (w.alloc (.cells #[.int .i64 what, .string ⟨([] : List UInt8).toArray⟩, .slice Aa attrs.length ca, .slice Ag grants.length cg] 47)) := (Below.refl _ _).alloc (Nat.le_refl _) _
     show Calls _ _ _ _ fun e w' => e = .returned (.bool (!bg && !ba)) ∧ Below w.heap.size w w'
     go_enter Tryz.func108, Tryz.ntmps108
     go_upto_region 1 with fail
     have HBW := Lib.hid hbw
     have HK0 : Hid (∀ W : World, Below (w.alloc (.cells #[.int .i64 what, .string ⟨([] : List UInt8).toArray⟩, .slice Aa attrs.length ca, .slice Ag grants.length cg] 47)).heap.size (w.alloc (.cells #[.int .i64 what, .string ⟨([] : List UInt8).toArray⟩, .slice Aa attrs.length ca, .slice Ag grants.length cg] 47)) W → W.cell? ⟨w.heap.size, 0, none⟩ = some (.int .i64 what) ∧ W.cell? ⟨w.heap.size, 1, none⟩ = some (.string ⟨([] : List UInt8).toArray⟩) ∧ W.cell? ⟨w.heap.size, 2, none⟩ = some (.slice Aa attrs.length ca) ∧ W.cell? ⟨w.heap.size, 3, none⟩ = some (.slice Ag grants.length cg)) := Lib.hid fun W hW => by
      have hB := hbk.below hW
      exact ⟨hB.cell 0, hB.cell 1, hB.cell 2, hB.cell 3⟩
     clear hbk hbw
     generalize w.heap.size = gb at HK0 ⊢
     generalize (w.alloc _) = w0 at HK0 HBW ⊢
     have HK : Hid (∀ W : World, Below w0.heap.size w0 W → (fun W => W.cell? ⟨gb, 0, none⟩ = some (.int .i64 what) ∧ W.cell? ⟨gb, 1, none⟩ = some (.string ⟨([] : List UInt8).toArray⟩) ∧ W.cell? ⟨gb, 2, none⟩ = some (.slice Aa attrs.length ca) ∧ W.cell? ⟨gb, 3, none⟩ = some (.slice Ag grants.length cg) ∧ Below w0.heap.size w0 W) W) := Lib.hid fun W hW => by
      obtain ⟨k0, k1, k2, k3⟩ := HK0.out W hW
      exact ⟨k0, k1, k2, k3, hW⟩
     have hdr : Below w0.heap.size w0 w0.drew := (Below.refl _ _).drew
     go_region_held3 (fun W => W.cell? ⟨gb, 0, none⟩ = some (.int .i64 what) ∧ W.cell? ⟨gb, 1, none⟩ = some (.string ⟨([] : List UInt8).toArray⟩) ∧ W.cell? ⟨gb, 2, none⟩ = some (.slice Aa attrs.length ca) ∧ W.cell? ⟨gb, 3, none⟩ = some (.slice Ag grants.length cg) ∧ Below w0.heap.size w0 W) (first | exact HK.out _ hdr | exact HK.out _ hd2 | fail) (first | (go_at_call 20; refine (whats_c _).mono ?_; rintro e w2 ⟨rfl, hb2x, _⟩; have hd2 := hdr.trans (hb2x.mono hdr.size)) | (go_at_call 120; refine (in_c _ _ _ _ _).mono ?_; rintro e w3 ⟨rfl, rfl⟩; rw [HIN.out]))
     obtain ⟨k0, k1, k2, k3, _⟩ := HK.out _ hd2
     have hgl : ((grants.length : Int) == 0) = false := by rw [beq_eq_false_iff_ne]; have := List.length_pos_iff.2 hne; omega
     have HG : Hid (Calls Tryz.prog 176 #[.slice Ag grants.length cg, .func (.func 175) #[] #[]] w2 fun e w' => e = .returned (.bool bg) ∧ Below w2.heap.size w2 w') := Lib.hid (HGR.out w2 (HBW.out.trans (hd2.mono HBW.out.size)))
     have HA : Hid (∀ W : World, Below w2.heap.size w2 W → Calls Tryz.prog 25 #[.slice Aa attrs.length ca, .func (.func 177) #[] #[]] W fun e w' => e = .returned (.bool ba) ∧ Below W.heap.size W w') := Lib.hid fun W hW => HAR.out W ((HBW.out.trans (hd2.mono HBW.out.size)).trans (hW.mono (Nat.le_trans HBW.out.size hd2.size)))
     have HK2 : Hid (∀ W : World, Below w2.heap.size w2 W → W.cell? ⟨gb, 2, none⟩ = some (.slice Aa attrs.length ca)) := Lib.hid fun W hW => (HK0.out W (hd2.trans (hW.mono hd2.size))).2.2.1
     clear HGR HAR HK0 HK
     cases bg
     ·go_wp2_with (first | (go_at_call 176; refine HG.out.mono ?_; rintro e w3 ⟨rfl, hb3⟩; have c2 := HK2.out _ hb3) | (go_at_call 25; refine (HA.out _ hb3).mono ?_; rintro e w4 ⟨rfl, hb4⟩))
      all_goals
       go_ret
       exact ⟨by cases ba <;> rfl, HBW.out.trans ((hd2.trans ((hb3.trans (hb4.mono hb3.size)).mono hd2.size)).mono HBW.out.size)⟩
     ·go_wp2_with (first | (go_at_call 176; refine HG.out.mono ?_; rintro e w3 ⟨rfl, hb3⟩))
      all_goals
       go_ret
       exact ⟨rfl, HBW.out.trans ((hd2.trans (hb3.mono hd2.size)).mono HBW.out.size)⟩
    ·obtain rfl : grants = [] := by simpa using hne0
     have e : (if !true || (true && ([] : List UInt8) != []) || true then false else !bg && !ba) = false := by simp
     rw [e]
     clear e
     have hbk := Bk.new w 47 #[.int .i64 what, .string ⟨([] : List UInt8).toArray⟩, .slice Aa attrs.length ca, .slice Ag ([] : List GrantS).length cg]
     have hbw : Below w.heap.size w (w.alloc (.cells #[.int .i64 what, .string ⟨([] : List UInt8).toArray⟩, .slice Aa attrs.length ca, .slice Ag ([] : List GrantS).length cg] 47)) := (Below.refl _ _).alloc (Nat.le_refl _) _
     show Calls _ _ _ _ fun e w' => e = .returned (.bool (false)) ∧ Below w.heap.size w w'
     go_enter Tryz.func108, Tryz.ntmps108
     go_upto_region 1 with fail
     have HBW := Lib.hid hbw
     have HK0 : Hid (∀ W : World, Below (w.alloc (.cells #[.int .i64 what, .string ⟨([] : List UInt8).toArray⟩, .slice Aa attrs.length ca, .slice Ag ([] : List GrantS).length cg] 47)).heap.size (w.alloc (.cells #[.int .i64 what, .string ⟨([] : List UInt8).toArray⟩, .slice Aa attrs.length ca, .slice Ag ([] : List GrantS).length cg] 47)) W → W.cell? ⟨w.heap.size, 0, none⟩ = some (.int .i64 what) ∧ W.cell? ⟨w.heap.size, 1, none⟩ = some (.string ⟨([] : List UInt8).toArray⟩) ∧ W.cell? ⟨w.heap.size, 2, none⟩ = some (.slice Aa attrs.length ca) ∧ W.cell? ⟨w.heap.size, 3, none⟩ = some (.slice Ag ([] : List GrantS).length cg)) := Lib.hid fun W hW => by
      have hB := hbk.below hW
      exact ⟨hB.cell 0, hB.cell 1, hB.cell 2, hB.cell 3⟩
     clear hbk hbw
     generalize w.heap.size = gb at HK0 ⊢
     generalize (w.alloc _) = w0 at HK0 HBW ⊢
     have HK : Hid (∀ W : World, Below w0.heap.size w0 W → (fun W => W.cell? ⟨gb, 0, none⟩ = some (.int .i64 what) ∧ W.cell? ⟨gb, 1, none⟩ = some (.string ⟨([] : List UInt8).toArray⟩) ∧ W.cell? ⟨gb, 2, none⟩ = some (.slice Aa attrs.length ca) ∧ W.cell? ⟨gb, 3, none⟩ = some (.slice Ag ([] : List GrantS).length cg) ∧ Below w0.heap.size w0 W) W) := Lib.hid fun W hW => by
      obtain ⟨k0, k1, k2, k3⟩ := HK0.out W hW
      exact ⟨k0, k1, k2, k3, hW⟩
     have hdr : Below w0.heap.size w0 w0.drew := (Below.refl _ _).drew
     go_region_held3 (fun W => W.cell? ⟨gb, 0, none⟩ = some (.int .i64 what) ∧ W.cell? ⟨gb, 1, none⟩ = some (.string ⟨([] : List UInt8).toArray⟩) ∧ W.cell? ⟨gb, 2, none⟩ = some (.slice Aa attrs.length ca) ∧ W.cell? ⟨gb, 3, none⟩ = some (.slice Ag ([] : List GrantS).length cg) ∧ Below w0.heap.size w0 W) (first | exact HK.out _ hdr | exact HK.out _ hd2 | fail) (first | (go_at_call 20; refine (whats_c _).mono ?_; rintro e w2 ⟨rfl, hb2x, _⟩; have hd2 := hdr.trans (hb2x.mono hdr.size)) | (go_at_call 120; refine (in_c _ _ _ _ _).mono ?_; rintro e w3 ⟨rfl, rfl⟩; rw [HIN.out]))
     go_wp2_with fail
     all_goals
      go_ret
      exact ⟨rfl, HBW.out.trans (hd2.mono HBW.out.size)⟩
end Go.Proofs.YtbjmpmgiigombaaGreatDoor
