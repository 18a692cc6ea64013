import Derived.Test.YtkkbbhlihilnpaaGreatDoorWu7
import Derived.Test.YtkkbbhlihilnpaaGreatDoorWu8
set_option linter.all false
set_option maxHeartbeats 8000000
set_option maxRecDepth 100000
namespace Go.Proofs.YtkkbbhlihilnpaaGreatDoor
open Go.RowKit
theorem mods_nil {W : World} : ModsA W (.slice none 0 0) [] := ⟨none, 0, rfl, Nat.le_refl _, fun j hj => absurd hj (by simp)⟩
theorem mods_one {W : World} {g : Nat} {op : Int} {t : LU} {u : Value} {vs : LL} (h : Bk W g 55 #[.int .i64 op, .string ⟨t.toArray⟩, u]) (ht : TextsA W u vs) : ModsA W (.slice (some ⟨g, 0, none⟩) 1 1) [⟨op, t, vs⟩] := by
 refine ⟨_, 1, rfl, Nat.le_refl _, fun j hj => ?_⟩
 have hj0 : j = 0 := by simpa using hj
 subst hj0
 exact ⟨g, 0, u, rfl, h.cell 0, h.cell 1, h.cell 2, ht⟩
theorem mods_two7 {W : World} {g : Nat} {op1 op2 : Int} {t1 t2 : LU} {u1 u2 : Value} {vs1 vs2 : LL} (h : Bk W g 55 #[.int .i64 op1, .string ⟨t1.toArray⟩, u1, .int .i64 op2, .string ⟨t2.toArray⟩, u2]) (h1 : TextsA W u1 vs1) (h2 : TextsA W u2 vs2) : ModsA W (.slice (some ⟨g, 0, none⟩) 2 2) [⟨op1, t1, vs1⟩, ⟨op2, t2, vs2⟩] := by
 refine ⟨_, 2, rfl, Nat.le_refl _, fun j hj => ?_⟩
 match j, hj with
 | 0, _ => exact ⟨g, 0, u1, rfl, h.cell 0, h.cell 1, h.cell 2, h1⟩
 | 1, _ => exact ⟨g, 0, u2, rfl, h.cell 3, h.cell 4, h.cell 5, h2⟩
 | j + 2, hj => exact absurd hj (by simp)
theorem mods_lay {w0 : World} (w : World) (cs : Array Value) (hB : Below w0.heap.size w0 w) : Below w0.heap.size w0 (w.alloc (.cells cs 55)) ∧ Below w.heap.size w (w.alloc (.cells cs 55)) ∧ Bk (w.alloc (.cells cs 55)) w.heap.size 55 cs :=
 ⟨hB.trans ((bel_one w (.cells cs 55)).mono hB.size), bel_one w (.cells cs 55), Bk.new w _ _⟩
theorem Bk.c3 {w : World} {g : Nat} {t : TypeId} {a b c : Value} (h : Bk w g t #[a, b, c]) : w.cell? ⟨g, 0, none⟩ = some a ∧ w.cell? ⟨g, 1, none⟩ = some b ∧ w.cell? ⟨g, 2, none⟩ = some c := ⟨h.cell 0, h.cell 1, h.cell 2⟩
section
variable (w : World) (typ v : LU)
theorem st4 {W : World} (hW : W = (((w.alloc (.cells #[.string ⟨v.toArray⟩] 9)).alloc (.cells #[.int .i64 0, .string ⟨typ.toArray⟩, .slice (some ⟨w.heap.size, 0, none⟩) 1 1] 55)).alloc (.cells #[.string ⟨v.toArray⟩] 9)).alloc (.cells #[.int .i64 1, .string ⟨typ.toArray⟩, .slice (some ⟨w.heap.size + 1 + 1, 0, none⟩) 1 1] 55)) : Below w.heap.size w W ∧ W.cell? ⟨w.heap.size + 1, 0, none⟩ = some (.int .i64 0) ∧ W.cell? ⟨w.heap.size + 1, 1, none⟩ = some (.string ⟨typ.toArray⟩) ∧ W.cell? ⟨w.heap.size + 1, 2, none⟩ = some (.slice (some ⟨w.heap.size, 0, none⟩) 1 1) := by
 subst hW
 have b1 := bel_one w (.cells #[.string ⟨v.toArray⟩] 9)
 have k1 := Bk.new w 9 #[.string ⟨v.toArray⟩]
 have s1 : (w.alloc (.cells #[.string ⟨v.toArray⟩] 9)).heap.size = w.heap.size + 1 := by simp
 generalize w.alloc (.cells #[.string ⟨v.toArray⟩] 9) = W1 at *
 have b2 := bel_one W1 (.cells #[.int .i64 0, .string ⟨typ.toArray⟩, .slice (some ⟨w.heap.size, 0, none⟩) 1 1] 55)
 have k2 := Bk.new W1 55 #[.int .i64 0, .string ⟨typ.toArray⟩, .slice (some ⟨w.heap.size, 0, none⟩) 1 1]
 have s2 : (W1.alloc (.cells #[.int .i64 0, .string ⟨typ.toArray⟩, .slice (some ⟨w.heap.size, 0, none⟩) 1 1] 55)).heap.size = W1.heap.size + 1 := by simp
 generalize W1.alloc (.cells #[.int .i64 0, .string ⟨typ.toArray⟩, .slice (some ⟨w.heap.size, 0, none⟩) 1 1] 55) = W2 at *
 have b3 := bel_one W2 (.cells #[.string ⟨v.toArray⟩] 9)
 have k3 := Bk.new W2 9 #[.string ⟨v.toArray⟩]
 have s3 : (W2.alloc (.cells #[.string ⟨v.toArray⟩] 9)).heap.size = W2.heap.size + 1 := by simp
 generalize W2.alloc (.cells #[.string ⟨v.toArray⟩] 9) = W3 at *
 have b4 := bel_one W3 (.cells #[.int .i64 1, .string ⟨typ.toArray⟩, .slice (some ⟨w.heap.size + 1 + 1, 0, none⟩) 1 1] 55)
 have k4 := Bk.new W3 55 #[.int .i64 1, .string ⟨typ.toArray⟩, .slice (some ⟨w.heap.size + 1 + 1, 0, none⟩) 1 1]
 rw [s3, s2, s1] at k4
 rw [s2, s1] at k3
 rw [s1] at k2
 exact ⟨b1.trans ((b2.trans ((b3.trans (b4.mono b3.size)).mono b2.size)).mono b1.size), ((k2.below b3).below b4).c3⟩
theorem st5 {W : World} (hW : W = ((((w.alloc (.cells #[.string ⟨v.toArray⟩] 9)).alloc (.cells #[.int .i64 0, .string ⟨typ.toArray⟩, .slice (some ⟨w.heap.size, 0, none⟩) 1 1] 55)).alloc (.cells #[.string ⟨v.toArray⟩] 9)).alloc (.cells #[.int .i64 1, .string ⟨typ.toArray⟩, .slice (some ⟨w.heap.size + 1 + 1, 0, none⟩) 1 1] 55)).alloc (.cells #[.int .i64 0, .string ⟨typ.toArray⟩, .slice (some ⟨w.heap.size, 0, none⟩) 1 1] 55)) : Below w.heap.size w W ∧ Bk W (w.heap.size + 1) 55 #[.int .i64 0, .string ⟨typ.toArray⟩, .slice (some ⟨w.heap.size, 0, none⟩) 1 1] ∧ Bk W (w.heap.size + 1 + 1 + 1) 55 #[.int .i64 1, .string ⟨typ.toArray⟩, .slice (some ⟨w.heap.size + 1 + 1, 0, none⟩) 1 1] ∧ TextsA W (.slice (some ⟨w.heap.size, 0, none⟩) 1 1) [v] ∧ TextsA W (.slice (some ⟨w.heap.size + 1 + 1, 0, none⟩) 1 1) [v] ∧ ModsA W (.slice (some ⟨w.heap.size + 1 + 1 + 1 + 1, 0, none⟩) 1 1) [⟨0, typ, [v]⟩] := by
 subst hW
 have b1 := bel_one w (.cells #[.string ⟨v.toArray⟩] 9)
 have k1 := Bk.new w 9 #[.string ⟨v.toArray⟩]
 have s1 : (w.alloc (.cells #[.string ⟨v.toArray⟩] 9)).heap.size = w.heap.size + 1 := by simp
 generalize w.alloc (.cells #[.string ⟨v.toArray⟩] 9) = W1 at *
 have b2 := bel_one W1 (.cells #[.int .i64 0, .string ⟨typ.toArray⟩, .slice (some ⟨w.heap.size, 0, none⟩) 1 1] 55)
 have k2 := Bk.new W1 55 #[.int .i64 0, .string ⟨typ.toArray⟩, .slice (some ⟨w.heap.size, 0, none⟩) 1 1]
 have s2 : (W1.alloc (.cells #[.int .i64 0, .string ⟨typ.toArray⟩, .slice (some ⟨w.heap.size, 0, none⟩) 1 1] 55)).heap.size = W1.heap.size + 1 := by simp
 generalize W1.alloc (.cells #[.int .i64 0, .string ⟨typ.toArray⟩, .slice (some ⟨w.heap.size, 0, none⟩) 1 1] 55) = W2 at *
 have b3 := bel_one W2 (.cells #[.string ⟨v.toArray⟩] 9)
 have k3 := Bk.new W2 9 #[.string ⟨v.toArray⟩]
 have s3 : (W2.alloc (.cells #[.string ⟨v.toArray⟩] 9)).heap.size = W2.heap.size + 1 := by simp
 generalize W2.alloc (.cells #[.string ⟨v.toArray⟩] 9) = W3 at *
 have b4 := bel_one W3 (.cells #[.int .i64 1, .string ⟨typ.toArray⟩, .slice (some ⟨w.heap.size + 1 + 1, 0, none⟩) 1 1] 55)
 have k4 := Bk.new W3 55 #[.int .i64 1, .string ⟨typ.toArray⟩, .slice (some ⟨w.heap.size + 1 + 1, 0, none⟩) 1 1]
 rw [s3, s2, s1] at k4
 rw [s2, s1] at k3
 rw [s1] at k2
 have s4 : (W3.alloc (.cells #[.int .i64 1, .string ⟨typ.toArray⟩, .slice (some ⟨w.heap.size + 1 + 1, 0, none⟩) 1 1] 55)).heap.size = W3.heap.size + 1 := by simp
 generalize W3.alloc (.cells #[.int .i64 1, .string ⟨typ.toArray⟩, .slice (some ⟨w.heap.size + 1 + 1, 0, none⟩) 1 1] 55) = W4 at *
 have b5 := bel_one W4 (.cells #[.int .i64 0, .string ⟨typ.toArray⟩, .slice (some ⟨w.heap.size, 0, none⟩) 1 1] 55)
 have k5 := Bk.new W4 55 #[.int .i64 0, .string ⟨typ.toArray⟩, .slice (some ⟨w.heap.size, 0, none⟩) 1 1]
 rw [s4, s3, s2, s1] at k5
 have t1 := texts_one7 ((((k1.below b2).below b3).below b4).below b5)
 have t3 := texts_one7 ((k3.below b4).below b5)
 exact ⟨b1.trans ((b2.trans ((b3.trans ((b4.trans (b5.mono b4.size)).mono b3.size)).mono b2.size)).mono b1.size), ((k2.below b3).below b4).below b5, k4.below b5, t1, t3, mods_one k5 t1⟩
end
theorem still_main (nm : LU) (l : List Ent.AttrE) (A : Option Addr) (n c : Nat) (hn : l.length = n) (typ v : LU) (w : World) (hw : Env w) (hv : AttrsA w (.slice A n c) l) (hb : lightN l ≤ 1048576) (ht : ∀ a ∈ l, a.typ.length ≤ 1048576) (hlv : ∀ a ∈ l, ∀ v ∈ a.vals, ShortV v) (htl : typ.length ≤ 1048576) (hvl : v.length ≤ 1048576) :
  Calls Tryz.prog 5 #[.string ⟨nm.toArray⟩, .slice A n c, .string ⟨typ.toArray⟩, .string ⟨v.toArray⟩] w fun e w' => e = .returned (.bool true) ∧ Below w.heap.size w w' := by
 have HAl := hiD (fun (W : World) (h : Below w.heap.size w W) => alive7_c W (hw.keep h))
 have HLi := hiD (light7_c l _ w hv hb)
 have HBa := hiD (base7_c w hw)
 by_cases hlt : lightN l ≤ 600
 ·have hd : decide (lightN l ≤ 600) = true := decide_eq_true hlt
  rw [hd] at HLi
  have hll : l.length ≤ 600 := Nat.le_trans (light_len l) hlt
  obtain ⟨⟨code, en⟩, hR⟩ : ∃ R, Ent.makeE (schE baseL) nm l = R := ⟨_, rfl⟩
  have HM : Hid (∀ (W : World) (s : Nat) (ps : List Nat), Below w.heap.size w W → SchAt W s ps baseL → Calls Tryz.prog 19 #[.pointer (some ⟨s, 0, none⟩), .string ⟨nm.toArray⟩, .slice A n c] W (QRet W (code, en))) := hiD fun W s ps h hS => by
   have := MakeQ_c s ps nm l _ W (hw.keep h) hS (hv.below h) (by omega) (light_lim hlt ht)
   rw [hR] at this
   exact this
  unfold QRet at HM
  obtain ⟨ck, hck⟩ : ∃ x, Ent.checkE (schE baseL) en = x := ⟨_, rfl⟩
  have HGd := hiD (fun (h : code = 0) => make_good (nm := nm) (l := l) (e := en) hlv (by rw [hR, h]))
  have HCk0 : Hid (code = 0 → ∀ (W : World) (s : Nat) (ps : List Nat) (va : Value), SchAt W s ps baseL → AttrsA W va en.attrs → Calls Tryz.prog 24 #[.pointer (some ⟨s, 0, none⟩), .agg #[.string ⟨en.dn.toArray⟩, va]] W fun e w' => e = .returned (.int .i64 ck) ∧ Below W.heap.size W w') := hiD fun h0 W s ps va hS hva => by
   have hlim := right_lim (HGd.out h0).1
   have := CheckB_c s ps en va W hS hva hlim.2.2.2.1 hlim.2.2.1 hlim.2.1 (fun y hy => Nat.le_trans ((HGd.out h0).2.find Ent.wObj y hy) (by decide))
   rw [hck] at this
   exact this
  have HS0 := hiD (fun (h : code = 0) W v1 v2 h1 h2 => SameQ_c en v1 v2 W (HGd.out h).1 h1 h2)
  clear HGd
  obtain ⟨edn, eat⟩ := en
  simp only at HM HCk0 HS0
  go_enter Tryz.func5, Tryz.ntmps5
  go_upto_region 5 with (first
   | (go_at_call 16; refine HLi.out.mono ?_; rintro e w1 ⟨rfl, rfl⟩)
   | (go_at_call 18; refine HBa.out.mono ?_; rintro e w2 ⟨s, ps, rfl, hB2, hS2⟩)
   | (go_at_call 19; (with_reducible refine (HM.out _ s ps hB2 hS2).mono ?_); rintro e w3 ⟨hb3, A3, c3, rfl, hA3⟩; obtain ⟨hB4, hy4, hx3, hk3⟩ := ent_lay edn (.slice A3 eat.length c3) hB2 hb3; have hS4 := hS2.below hy4; have hV3 := hA3.below hx3; obtain ⟨p3, q3⟩ := hk3.c2))
  by_cases hc : code = 0
  ·subst hc
   have hB4' := hiD hB4
   obtain ⟨hright, hshort⟩ := make_good hlv hR
   have HCk := hiD (HCk0.out rfl)
   have HS := hiD (HS0.out rfl)
   clear HCk0 HS0
   by_cases hcz : ck = 0
   ·subst hcz
    obtain ⟨law0, law1⟩ := Ent.still_law7 (schE_law base_sound.says) hR hck typ v
    have hmm : ∀ ms : List Ent.ModE, (∀ m ∈ ms, m.typ = typ ∧ m.vals = [v]) → ∀ m ∈ ms, m.typ.length ≤ 1048576 ∧ m.vals.length ≤ 1048576 ∧ ∀ x ∈ m.vals, ShortV x := fun ms hmm m hm => by
     obtain ⟨e1, e2⟩ := hmm m hm
     rw [e1, e2]
     exact ⟨htl, by simp, fun x hx => by rw [List.mem_singleton.1 hx]; exact hvl⟩
    have HAp : ∀ (e' : Ent.EntryE) (ms : List Ent.ModE) (R : Int × Ent.EntryE), Ent.RightE (schE baseL) e' → Ent.AllV ShortV e' → ms.length ≤ 2 → (∀ m ∈ ms, m.typ = typ ∧ m.vals = [v]) → Ent.applyE (schE baseL) e' ms false = R → Hid (∀ (W : World) (s : Nat) (ps : List Nat) (va vm : Value), Below w.heap.size w W → SchAt W s ps baseL → AttrsA W va e'.attrs → ModsA W vm ms → Calls Tryz.prog 25 #[.pointer (some ⟨s, 0, none⟩), .agg #[.string ⟨e'.dn.toArray⟩, va], vm, .bool false] W (QRet W R)) := fun e' ms R hr hs h2 hmn hRe => hiD fun W s ps va vm h hS hva hm => by
     have := ApplyQ_c s ps e' va ms vm false W (hw.keep h) hS hr hs hva hm (by omega) (hmm ms hmn)
     rw [hRe] at this
     exact this
    obtain ⟨⟨k1, y⟩, hY⟩ : ∃ Y, Ent.applyE (schE baseL) ⟨edn, eat⟩ [⟨0, typ, [v]⟩] false = Y := ⟨_, rfl⟩
    have hone : ∀ op : Int, ∀ m ∈ [(⟨op, typ, [v]⟩ : Ent.ModE)], m.typ = typ ∧ m.vals = [v] := fun op m hm => by rw [List.mem_singleton.1 hm]; exact ⟨rfl, rfl⟩
    have HA0 := HAp _ [] _ hright hshort (by simp) (fun m hm => by cases hm) law0
    have HA1 := HAp _ [⟨0, typ, [v]⟩] _ hright hshort (by simp) (hone 0) hY
    have HG := hiD (fun (h : k1 = 0) => law1 y (by rw [hY, h]))
    have HRt := hiD (fun (h : k1 = 0) => apply_right (e := ⟨edn, eat⟩) (x := y) (ms := [⟨0, typ, [v]⟩]) (perm := false) hright hshort (hmm _ (hone 0)) (by rw [hY, h]))
    have HA2 := hiD (fun (h : k1 = 0) => HAp y [⟨1, typ, [v]⟩] _ (HRt.out h).1 (HRt.out h).2 (by simp) (hone 1) (HG.out h).2.1)
    have HA3 := hiD (fun (h : k1 = 0) => HAp _ [⟨0, typ, [v]⟩, ⟨1, typ, [v]⟩] _ hright hshort (by simp) (fun m hm => by
     rcases List.mem_cons.1 hm with rfl | hm
     ·exact ⟨rfl, rfl⟩
     ·exact hone 1 m hm) (HG.out h).2.2)
    have HH : Hid (k1 = 0 → ∀ (W : World) (s : Nat) (ps : List Nat) (va : Value), Below w.heap.size w W → SchAt W s ps baseL → AttrsA W va y.attrs → Calls Tryz.prog 22 #[.pointer (some ⟨s, 0, none⟩), .agg #[.string ⟨y.dn.toArray⟩, va], .string ⟨typ.toArray⟩, .string ⟨v.toArray⟩] W fun e w' => e = .returned (.bool true) ∧ Below W.heap.size W w') := hiD fun h0 W s ps va h hS hva => by
     have hlimy := right_lim (HRt.out h0).1
     have := Has_c s ps baseL base_sound y va typ v W (hw.keep h) hS hva hlimy.2.2.2.1 hlimy.2.2.1 hlimy.2.1 (by omega)
     rw [(HG.out h0).1] at this
     exact this
    unfold QRet at HA0 HA1 HA2 HA3
    obtain ⟨ydn, yat⟩ := y
    simp only at HA0 HA1 HA2 HA3 HH
    clear hR hY hw hv hb ht hlt hd hll hlv hright hshort HAp law0 law1 hck hone hmm HG HRt
    go_upto_region 13 with (first
     | (go_at_call 24; (with_reducible refine (HCk.out _ s ps _ hS4 hV3).mono ?_); rintro e w5 ⟨rfl, hb5⟩; have hB5 := hB4.trans (hb5.mono hB4.size); have hS5 := hS4.below hb5; have hk3 := hk3.below hb5; have hV3 := hV3.below hb5; obtain ⟨p3, q3⟩ := hk3.c2)
     | (go_at_call 25; (with_reducible refine (HA0.out _ s ps _ _ hB5 hS5 hV3 mods_nil).mono ?_); rintro e w6 ⟨hb6, A6, c6, rfl, hA6⟩; obtain ⟨hB7, hy7, hx6, hk6⟩ := ent_lay edn (.slice A6 eat.length c6) hB5 hb6; have hS7 := hS5.below hy7; have hV6 := hA6.below hx6; have hk3 := hk3.below hy7; have hV3 := hV3.below hy7; obtain ⟨p3, q3⟩ := hk3.c2; obtain ⟨p6, q6⟩ := hk6.c2)
     | (go_at_call 23; (with_reducible refine (HS.out _ _ _ hV6 hV3).mono ?_); rintro e w8 ⟨rfl, hb8⟩; have hB8 := hB7.trans (hb8.mono hB7.size); have hS8 := hS7.below hb8; have hk3 := hk3.below hb8; have hV3 := hV3.below hb8; obtain ⟨p3, q3⟩ := hk3.c2; obtain ⟨hr4, a0, a1, a2⟩ := st4 w8 typ v rfl; obtain ⟨e0, e1⟩ := (hk3.below hr4).c2; obtain ⟨hr5, hkA, hkD, hTA, hTD, hM5⟩ := st5 w8 typ v rfl; have hB9 := hB8.trans (hr5.mono hB8.size); have hS9 := hS8.below hr5; have hk3 := hk3.below hr5; have hV3 := hV3.below hr5)
     | (go_at_call 25; (with_reducible refine (HA1.out _ s ps _ _ hB9 hS9 hV3 hM5).mono ?_); rintro e w10 ⟨hb10, A10, c10, rfl, hA10⟩; obtain ⟨hB11, hy11, hx10, hk10⟩ := ent_lay ydn (.slice A10 yat.length c10) hB9 hb10; have hS11 := hS9.below hy11; have hV10 := hA10.below hx10; have hk3 := hk3.below hy11; have hV3 := hV3.below hy11; have hkA := hkA.below hy11; have hkD := hkD.below hy11; have hTA := hTA.below hy11; have hTD := hTD.below hy11; obtain ⟨p3, q3⟩ := hk3.c2; obtain ⟨p10, q10⟩ := hk10.c2; obtain ⟨a0, a1, a2⟩ := hkA.c3; obtain ⟨d0, d1, d2⟩ := hkD.c3; obtain ⟨hB12, hz12, hn12⟩ := mods_lay (w10.alloc (.cells #[.string ⟨ydn.toArray⟩, .slice A10 yat.length c10] 37)) #[.int .i64 1, .string ⟨typ.toArray⟩, .slice (some ⟨w8.heap.size + 1 + 1, 0, none⟩) 1 1] hB11; rw [World.size_alloc] at hn12; have hS12 := hS11.below hz12; have hkA := hkA.below hz12; have hkD := hkD.below hz12; have hTA := hTA.below hz12; have hTD := hTD.below hz12; have hM6 := mods_one hn12 hTD; have hk3 := hk3.below hz12; have hV3 := hV3.below hz12; have hk10 := hk10.below hz12; have hV10 := hV10.below hz12))
    by_cases hk : k1 = 0
    ·subst hk
     have HQ2 := HA2.out rfl
     have HQ3 := HA3.out rfl
     have HQH := hiD (HH.out rfl)
     clear HA2 HA3 HH
     go_wp2_with (first
      | (go_at_call 25; (with_reducible refine (HQ2.out _ s ps _ _ hB12 hS12 hV10 hM6).mono ?_); rintro e w13 ⟨hb13, A13, c13, rfl, hA13⟩; obtain ⟨hB14, hy14, hx13, hk13⟩ := ent_lay edn (.slice A13 eat.length c13) hB12 hb13; have hS14 := hS12.below hy14; have hV13 := hA13.below hx13; have hk3 := hk3.below hy14; have hV3 := hV3.below hy14; have hk10 := hk10.below hy14; have hV10 := hV10.below hy14; have hkA := hkA.below hy14; have hkD := hkD.below hy14; have hTA := hTA.below hy14; have hTD := hTD.below hy14; obtain ⟨p3, q3⟩ := hk3.c2; obtain ⟨p10, q10⟩ := hk10.c2; obtain ⟨p13, q13⟩ := hk13.c2; obtain ⟨a0, a1, a2⟩ := hkA.c3; obtain ⟨d0, d1, d2⟩ := hkD.c3; obtain ⟨hB15, hz15, hn15⟩ := mods_lay (w13.alloc (.cells #[.string ⟨edn.toArray⟩, .slice A13 eat.length c13] 37)) #[.int .i64 0, .string ⟨typ.toArray⟩, .slice (some ⟨w8.heap.size, 0, none⟩) 1 1, .int .i64 1, .string ⟨typ.toArray⟩, .slice (some ⟨w8.heap.size + 1 + 1, 0, none⟩) 1 1] hB14; rw [World.size_alloc] at hn15; have hS15 := hS14.below hz15; have hkA := hkA.below hz15; have hkD := hkD.below hz15; have hTA := hTA.below hz15; have hTD := hTD.below hz15; have hM7 := mods_two7 hn15 hTA hTD; have hk3 := hk3.below hz15; have hV3 := hV3.below hz15; have hk10 := hk10.below hz15; have hV10 := hV10.below hz15; have hk13 := hk13.below hz15; have hV13 := hV13.below hz15)
      | (go_at_call 25; (with_reducible refine (HQ3.out _ s ps _ _ hB15 hS15 hV3 hM7).mono ?_); rintro e w16 ⟨hb16, A16, c16, rfl, hA16⟩; obtain ⟨hB17, hy17, hx16, hk16⟩ := ent_lay edn (.slice A16 eat.length c16) hB15 hb16; have hS17 := hS15.below hy17; have hV16 := hA16.below hx16; have hk3 := hk3.below hy17; have hV3 := hV3.below hy17; have hk10 := hk10.below hy17; have hV10 := hV10.below hy17; have hk13 := hk13.below hy17; have hV13 := hV13.below hy17; obtain ⟨p3, q3⟩ := hk3.c2; obtain ⟨p10, q10⟩ := hk10.c2; obtain ⟨p13, q13⟩ := hk13.c2; obtain ⟨p16, q16⟩ := hk16.c2)
      | (go_at_call 17; (with_reducible refine (HAl.out _ hB17).mono ?_); rintro e w18 ⟨rfl, hb18⟩; have hB18 := hB17.trans (hb18.mono hB17.size); have hS18 := hS17.below hb18; have hk3 := hk3.below hb18; have hV3 := hV3.below hb18; have hk10 := hk10.below hb18; have hV10 := hV10.below hb18; have hk13 := hk13.below hb18; have hV13 := hV13.below hb18; have hk16 := hk16.below hb18; have hV16 := hV16.below hb18; obtain ⟨p3, q3⟩ := hk3.c2; obtain ⟨p10, q10⟩ := hk10.c2; obtain ⟨p13, q13⟩ := hk13.c2; obtain ⟨p16, q16⟩ := hk16.c2)
      | (go_at_call 22; (with_reducible refine (HQH.out _ s ps _ hB18 hS18 hV10).mono ?_); rintro e w19 ⟨rfl, hb19⟩; have hB19 := hB18.trans (hb19.mono hB18.size); have hS19 := hS18.below hb19; have hk3 := hk3.below hb19; have hV3 := hV3.below hb19; have hk13 := hk13.below hb19; have hV13 := hV13.below hb19; have hk16 := hk16.below hb19; have hV16 := hV16.below hb19; obtain ⟨p3, q3⟩ := hk3.c2; obtain ⟨p13, q13⟩ := hk13.c2; obtain ⟨p16, q16⟩ := hk16.c2)
      | (go_at_call 23; (with_reducible refine (HS.out _ _ _ hV13 hV3).mono ?_); rintro e w20 ⟨rfl, hb20⟩; have hB20 := hB19.trans (hb20.mono hB19.size); have hS20 := hS19.below hb20; have hk3 := hk3.below hb20; have hV3 := hV3.below hb20; have hk16 := hk16.below hb20; have hV16 := hV16.below hb20; obtain ⟨p3, q3⟩ := hk3.c2; obtain ⟨p16, q16⟩ := hk16.c2)
      | (go_at_call 23; (with_reducible refine (HS.out _ _ _ hV16 hV3).mono ?_); rintro e w21 ⟨rfl, hb21⟩; have hB21 := hB20.trans (hb21.mono hB20.size); have hS21 := hS20.below hb21))
     go_ret
     exact ⟨rfl, hB21⟩
    ·have hkb : (k1 != 0) = true := bne_iff_ne.2 hk
     go_wp2_with (go_at_call 17; (with_reducible refine (HAl.out _ hB11).mono ?_); rintro e w12 ⟨rfl, hb12⟩; have hB12 := hB11.trans (hb12.mono hB11.size))
     go_ret
     exact ⟨rfl, hB12⟩
   ·have hcb : (ck != 0) = true := bne_iff_ne.2 hcz
    go_wp2_with (first
     | (go_at_call 24; (with_reducible refine (HCk.out _ s ps _ hS4 hV3).mono ?_); rintro e w5 ⟨rfl, hb5⟩; have hB5 := hB4.trans (hb5.mono hB4.size); have hS5 := hS4.below hb5; have hk3 := hk3.below hb5; have hV3 := hV3.below hb5; obtain ⟨p3, q3⟩ := hk3.c2)
     | (go_at_call 17; (with_reducible refine (HAl.out _ hB5).mono ?_); rintro e w6 ⟨rfl, hb6⟩; have hB6 := hB5.trans (hb6.mono hB5.size)))
    go_ret
    exact ⟨rfl, hB6⟩
  ·have hcb : (code != 0) = true := bne_iff_ne.2 hc
   go_wp2_with (go_at_call 17; (with_reducible refine (HAl.out _ hB4).mono ?_); rintro e w5 ⟨rfl, hb5⟩; have hB5 := hB4.trans (hb5.mono hB4.size))
   go_ret
   exact ⟨rfl, hB5⟩
 ·have hd : decide (lightN l ≤ 600) = false := decide_eq_false hlt
  rw [hd] at HLi
  clear hw hv hb ht hlt hd HBa
  go_enter Tryz.func5, Tryz.ntmps5
  go_wp2_with (first
   | (go_at_call 16; refine HLi.out.mono ?_; rintro e w1 ⟨rfl, rfl⟩)
   | (go_at_call 17; refine (HAl.out _ (Below.refl _ _)).mono ?_; rintro e w3 ⟨rfl, hb3⟩))
  go_ret
  exact ⟨rfl, hb3⟩
theorem still_c (nm : LU) (l : List Ent.AttrE) (u : Value) (typ v : LU) (W : World) (hw : Env W) (hl : AttrsA W u l) (hb : (l.map fun a => 1 + attrW a).sum + nm.length + typ.length + v.length ≤ 1048576) :
  Calls Tryz.prog 5 #[.string ⟨nm.toArray⟩, u, .string ⟨typ.toArray⟩, .string ⟨v.toArray⟩] W fun e w' => e = .returned (.bool true) ∧ Below W.heap.size W w' := by
 obtain ⟨h1, h2⟩ := bulk_light l
 obtain ⟨A, c, rfl, hc⟩ := hl.isSlice
 exact still_main nm l A l.length c rfl typ v W hw hl (by omega) (fun a ha => by have := (h2 a ha).1; omega) (fun a ha v hv => by have := (h2 a ha).2 v hv; show _ ≤ _; omega) (by omega) (by omega)
end Go.Proofs.YtkkbbhlihilnpaaGreatDoor
namespace Go.Proofs.YtkkbbhlihilnpaaGreatDoor.entryStill
open Go.ChangeShapes Go.WideShapes Go.ChangeAt Go.RowKit Go.Lib Go.Shelf
open Go.ChangeMaps (open_string shut_string)
theorem lifted (os : Os) (started : os.Started) (H : Type) (enc : TypeId × Value → H) (F : Stop.Interp) :
  ReturnsInHanded {} Tryz.checked os 5 .any ((Rows.OpenSpec.upto Rows.entryStillSpec).preRow enc Tryz.prog Tryz.f5 Rows.entryStillUptoRow.domain false Rows.entryStillUptoRow.laid) (((Rows.OpenSpec.upto Rows.entryStillSpec).at F).post enc Tryz.prog Tryz.f5 false true false false) := by
 obtain ⟨places, hx⟩ := reads os enc
 rw [row_laid]
 refine returnsInHanded_of_row (C := Tryz.checked) (s := Rows.OpenSpec.upto Rows.entryStillSpec) own started (by kernel_rfl) Tryz.func5
  (witness_row_atRef (enc := enc) (C := Tryz.checked) false (laidWorld os) #[.string ⟨#[]⟩, .slice none 0 0, .string ⟨#[]⟩, .string ⟨#[]⟩] rfl (by kernel_rfl) (by kernel_rfl) (by kernel_rfl)
   (OpenSpec.preRow_of_cond 8 hx (by kernel_rfl) (fun k hk => by cases hk; kernel_rfl) (by kernel_rfl) (laid_met os _))) ?_
 intro W base args ds gs before hval0 hW _ hcond hsz hL hsh _
 have hk : Rows.uptoSmall H (ds ++ gs) = true := hcond _ rfl
 have hval : ∀ (j : Nat) t v, Tryz.f5.params[j]? = some t → args[j]? = some v → Value.okWide Tryz.prog W .any base t v := hval0
 have hW' := hW
 obtain ⟨p, q, hA0, hV0, rfl, _, _⟩ := hW
 have hA : DataW.TrodAll enc Tryz.prog W 0 (fun _ => true) true Tryz.f5.params.toList args.toList ds p := hA0
 rw [Tryz.params5] at hA hval
 obtain ⟨v0, v1, v2, v3, d0, d1, d2, d3, p0, p1, p2, p3, rfl, rfl, rfl, h0, h1, h2, h3⟩ := trodAll_n hA
 obtain ⟨rfl, rfl⟩ := trodVars_none hV0
 obtain ⟨⟨⟨s0⟩⟩, rfl, rfl, rfl, ws0⟩ := open_string Tryz.underlying9 (hval 0 9 v0 rfl rfl) h0
 have hlt1 : ∀ x ∈ p1, x.block < W.heap.size := fun x hx => hW'.lt x (by simp [hx])
 obtain ⟨a1, len1, cap1, rfl⟩ := okWide_slice Tryz.underlying32 (hval 1 32 v1 rfl rfl)
 obtain ⟨l1, hl1, hb1⟩ := attrs_arg h1
 obtain ⟨⟨⟨s2⟩⟩, rfl, rfl, rfl, ws2⟩ := open_string Tryz.underlying9 (hval 2 9 v2 rfl rfl) h2
 obtain ⟨⟨⟨s3⟩⟩, rfl, rfl, rfl, ws3⟩ := open_string Tryz.underlying9 (hval 3 9 v3 rfl rfl) h3
 have hbk : (l1.map fun a => 1 + attrW a).sum + s0.length + s2.length + s3.length ≤ 1048576 := by
  have hb : Rows.uptoBulkAll ([DataW.lit (.string s0), d1, DataW.lit (.string s2), DataW.lit (.string s3)] ++ ([] : List (DataW H))) ≤ 1048576 := of_decide_eq_true hk
  simp only [List.append_nil, Rows.uptoBulkAll, Rows.uptoBulk] at hb
  omega
 clear hA0 hV0 hval0
 refine (still_c s0 l1 _ s2 s3 W (env_of hL hsh) hl1 hbk).mono ?_
 rintro e W' ⟨rfl, bel⟩
 refine ⟨_, rfl, _, _, _, [], [] ++ (p1 ++ ([] ++ ([]))), [], hW', ?_, ?_, ?_, bel.frame _, fun h => by cases h⟩
 ·exact trodAll_mk1 (shut_bool Tryz.underlying4 _)
 ·exact ⟨[], _, (shut_string Tryz.underlying9 ws0), ⟨p1, _, (Below.trod laidOut (by as_aux_lemma => kernel_rfl) (of_decide_eq_true (by as_aux_lemma => kernel_rfl)) h1 bel hlt1), ⟨[], _, (shut_string Tryz.underlying9 ws2), trodAll_mk1 (shut_string Tryz.underlying9 ws3), rfl⟩, rfl⟩, rfl⟩
 ·rfl
theorem card : Rows.EntryStillUptoCardSaid := card_of lifted
end Go.Proofs.YtkkbbhlihilnpaaGreatDoor.entryStill
