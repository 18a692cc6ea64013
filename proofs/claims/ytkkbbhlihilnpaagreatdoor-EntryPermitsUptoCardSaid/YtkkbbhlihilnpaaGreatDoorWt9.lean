import Derived.Test.YtkkbbhlihilnpaaGreatDoorWs7
import Derived.Test.YtkkbbhlihilnpaaGreatDoorWt8
set_option linter.all false
set_option maxHeartbeats 8000000
set_option maxRecDepth 100000
namespace Go.Proofs.YtkkbbhlihilnpaaGreatDoor
open Go.RowKit
theorem permits_main (nm : LU) (l : List Ent.AttrE) (A : Option Addr) (n c : Nat) (hn : l.length = n) (ms : List Ent.ModE) (Am : Option Addr) (nn cm : Nat) (hnn : ms.length = nn) (w : World) (hw : Env w) (hv : AttrsA w (.slice A n c) l) (hmv : ModsA w (.slice Am nn cm) ms) (hb : lightN l ≤ 1048576) (ht : ∀ a ∈ l, a.typ.length ≤ 1048576) (hlv : ∀ a ∈ l, ∀ v ∈ a.vals, ShortV v) (hml : ms.length ≤ 1048576) (hms : ∀ m ∈ ms, m.typ.length ≤ 1048576 ∧ m.vals.length ≤ 1048576 ∧ ∀ v ∈ m.vals, ShortV v) :
  Calls Tryz.prog 7 #[.string ⟨nm.toArray⟩, .slice A n c, .slice Am nn cm] w fun e w' => e = .returned (.bool true) ∧ Below w.heap.size w w' := by
 have HAl := hiD (fun (W : World) (h : Below w.heap.size w W) => alive7_c W (hw.keep h))
 have HLi := hiD (light7_c l _ w hv hb)
 have HBa := hiD (base7_c w hw)
 by_cases hlt : lightN l ≤ 600
 ·have hd : decide (lightN l ≤ 600) = true := decide_eq_true hlt
  rw [hd] at HLi
  have hll : l.length ≤ 600 := Nat.le_trans (light_len l) hlt
  by_cases h60 : nn > 60
  ·have hgt : (60 : Int) < (nn : Int) := by omega
   clear hw hv hb ht hlt hd HBa
   go_enter Tryz.func7, Tryz.ntmps7
   go_wp2_with (first
    | (go_at_call 16; refine HLi.out.mono ?_; rintro e w1 ⟨rfl, rfl⟩)
    | (go_at_call 17; refine (HAl.out _ (Below.refl _ _)).mono ?_; rintro e w3 ⟨rfl, hb3⟩))
   go_ret
   exact ⟨rfl, hb3⟩
  have hgt : ¬ ((60 : Int) < (nn : Int)) := by omega
  obtain ⟨⟨code, en⟩, hR⟩ : ∃ R, Ent.makeE (schE baseL) nm l = R := ⟨_, rfl⟩
  have HM : Hid (∀ (W : World) (s : Nat) (ps : List Nat), Below w.heap.size w W → SchAt W s ps baseL → Calls Tryz.prog 19 #[.pointer (some ⟨s, 0, none⟩), .string ⟨nm.toArray⟩, .slice A n c] W (QRet W (code, en))) := hiD fun W s ps h hS => by
   have := MakeQ_c s ps nm l _ W (hw.keep h) hS (hv.below h) (by omega) (light_lim hlt ht)
   rw [hR] at this
   exact this
  unfold QRet at HM
  obtain ⟨edn, eat⟩ := en
  simp only at HM
  go_enter Tryz.func7, Tryz.ntmps7
  go_upto_region 5 with (first
   | (go_at_call 16; refine HLi.out.mono ?_; rintro e w1 ⟨rfl, rfl⟩)
   | (go_at_call 18; refine HBa.out.mono ?_; rintro e w2 ⟨s, ps, rfl, hB2, hS2⟩)
   | (go_at_call 19; (refine (HM.out _ s ps hB2 hS2).mono ?_); rintro e w3 ⟨hb3, A3, c3, rfl, hA3⟩; obtain ⟨hB4, hy4, hx3, hk3⟩ := ent_lay edn (.slice A3 eat.length c3) hB2 hb3; have hS4 := hS2.below hy4; have hV3 := hA3.below hx3; obtain ⟨p3, q3⟩ := hk3.c2))
  by_cases hc : code = 0
  ·subst hc
   have hB4' := hiD hB4
   obtain ⟨hq, hz⟩ := make_good hlv hR
   obtain ⟨law1, law2⟩ := Ent.permits_law (schE_law base_sound.says) hR ms
   obtain ⟨⟨k1, x⟩, hX⟩ : ∃ X, Ent.applyE (schE baseL) ⟨edn, eat⟩ ms false = X := ⟨_, rfl⟩
   obtain ⟨⟨k2, y⟩, hY⟩ : ∃ Y, Ent.applyE (schE baseL) ⟨edn, eat⟩ ms true = Y := ⟨_, rfl⟩
   have HAp : ∀ (e' : Ent.EntryE) (perm : Bool) (R : Int × Ent.EntryE), Ent.RightE (schE baseL) e' → Ent.AllV ShortV e' → Ent.applyE (schE baseL) e' ms perm = R → Hid (∀ (W : World) (s : Nat) (ps : List Nat) (va : Value), Below w.heap.size w W → SchAt W s ps baseL → AttrsA W va e'.attrs → Calls Tryz.prog 25 #[.pointer (some ⟨s, 0, none⟩), .agg #[.string ⟨e'.dn.toArray⟩, va], .slice Am nn cm, .bool perm] W (QRet W R)) := fun e' perm R hr hs hRe => hiD fun W s ps va h hS hva => by
    have := ApplyQ_c s ps e' va ms _ perm W (hw.keep h) hS hr hs hva (hmv.below h) hml hms
    rw [hRe] at this
    exact this
   have HA1 := HAp _ false _ hq hz hX
   have HA2 := HAp _ true _ hq hz hY
   unfold QRet at HA1 HA2
   have H12 : Hid (k1 = 0 → k2 = 0 ∧ y = x) := hiD fun h => by
    subst h
    have := law1 x hX
    rw [hY] at this
    exact Prod.mk.inj this
   have HS := hiD (fun (h : k2 = 0) W v1 v2 h1 h2 => SameQ_c y v1 v2 W (apply_right hq hz hms (h ▸ hY)).1 h1 h2)
   have HSX : Hid (k1 = 0 → ∀ (W : World) (v1 v2 : Value), AttrsA W v1 x.attrs → AttrsA W v2 y.attrs → Calls Tryz.prog 23 #[.agg #[.string ⟨x.dn.toArray⟩, v1], .agg #[.string ⟨y.dn.toArray⟩, v2]] W fun e w' => e = .returned (.bool true) ∧ Below W.heap.size W w') := hiD fun h => by
    obtain ⟨h2, h3⟩ := H12.out h
    rw [← h3]
    exact HS.out h2
   have HA3 := hiD (fun (h : k2 = 0) (h1 : nn = 1) => HAp y true _ (apply_right hq hz hms (h ▸ hY)).1 (apply_right hq hz hms (h ▸ hY)).2 (law2 y (by omega) (h ▸ hY)))
   unfold QRet at HA3
   obtain ⟨xdn, xat⟩ := x
   obtain ⟨ydn, yat⟩ := y
   simp only at HA1 HA2 HS HSX HA3 H12
   clear hR hX hY hw hv hb ht hlt hd hll hlv hml hms hmv hq hz h60 law1 law2 HAp
   go_upto_region 9 with (first
    | (go_at_call 25; (refine (HA1.out _ s ps _ hB4 hS4 hV3).mono ?_); rintro e w5 ⟨hb5, A5, c5, rfl, hA5⟩; obtain ⟨hB6, hy6, hx5, hk5⟩ := ent_lay xdn (.slice A5 xat.length c5) hB4 hb5; have hS6 := hS4.below hy6; have hV5 := hA5.below hx5; have hk3 := hk3.below hy6; have hV3 := hV3.below hy6; obtain ⟨p3, q3⟩ := hk3.c2; obtain ⟨p5, q5⟩ := hk5.c2)
    | (go_at_call 25; (refine (HA2.out _ s ps _ hB6 hS6 hV3).mono ?_); rintro e w7 ⟨hb7, A7, c7, rfl, hA7⟩; obtain ⟨hB8, hy8, hx7, hk7⟩ := ent_lay ydn (.slice A7 yat.length c7) hB6 hb7; have hS8 := hS6.below hy8; have hV7 := hA7.below hx7; have hk3 := hk3.below hy8; have hV3 := hV3.below hy8; have hk5 := hk5.below hy8; have hV5 := hV5.below hy8; obtain ⟨p3, q3⟩ := hk3.c2; obtain ⟨p5, q5⟩ := hk5.c2; obtain ⟨p7, q7⟩ := hk7.c2))
   by_cases h1 : k1 = 0
   ·have h2 := (H12.out h1).1
    have HSY := hiD (HSX.out h1)
    have HS2 := hiD (HS.out h2)
    have HA4 := HA3.out h2
    subst h1 h2
    clear H12 HS HA3 HSX
    by_cases hone : nn = 1
    ·have HA5 := HA4 hone
     subst hone
     clear HA4
     go_wp2_with (first
      | (go_at_call 23; (refine (HSY.out _ _ _ hV5 hV7).mono ?_); rintro e w9 ⟨rfl, hb9⟩; have hB9 := hB8.trans (hb9.mono hB8.size); have hS9 := hS8.below hb9; have hk7 := hk7.below hb9; have hV7 := hV7.below hb9; obtain ⟨p7, q7⟩ := hk7.c2)
      | (go_at_call 25; (refine (HA5.out _ s ps _ hB9 hS9 hV7).mono ?_); rintro e w10 ⟨hb10, A10, c10, rfl, hA10⟩; obtain ⟨hB11, hy11, hx10, hk10⟩ := ent_lay ydn (.slice A10 yat.length c10) hB9 hb10; have hS11 := hS9.below hy11; have hV10 := hA10.below hx10; have hk7 := hk7.below hy11; have hV7 := hV7.below hy11; obtain ⟨p7, q7⟩ := hk7.c2; obtain ⟨p10, q10⟩ := hk10.c2)
      | (go_at_call 17; (refine (HAl.out _ hB11).mono ?_); rintro e w12 ⟨rfl, hb12⟩; have hB12 := hB11.trans (hb12.mono hB11.size); have hS12 := hS11.below hb12; have hk7 := hk7.below hb12; have hV7 := hV7.below hb12; have hk10 := hk10.below hb12; have hV10 := hV10.below hb12; obtain ⟨p7, q7⟩ := hk7.c2; obtain ⟨p10, q10⟩ := hk10.c2)
      | (go_at_call 23; (refine (HS2.out _ _ _ hV7 hV10).mono ?_); rintro e w13 ⟨rfl, hb13⟩; have hB13 := hB12.trans (hb13.mono hB12.size)))
     go_ret
     exact ⟨rfl, hB13⟩
    ·have hn1 : ((nn : Int) != 1) = true := bne_iff_ne.2 (by omega)
     clear HA4
     go_wp2_with (first
      | (go_at_call 23; (refine (HSY.out _ _ _ hV5 hV7).mono ?_); rintro e w9 ⟨rfl, hb9⟩; have hB9 := hB8.trans (hb9.mono hB8.size))
      | (go_at_call 17; (refine (HAl.out _ hB9).mono ?_); rintro e w10 ⟨rfl, hb10⟩; have hB10 := hB9.trans (hb10.mono hB9.size)))
     go_ret
     exact ⟨rfl, hB10⟩
   ·have hk1 : (k1 == 0) = false := beq_eq_false_iff_ne.2 h1
    by_cases h2 : k2 = 0
    ·have HS2 := hiD (HS.out h2)
     have HA4 := HA3.out h2
     subst h2
     clear H12 HS HA3 HSX
     by_cases hone : nn = 1
     ·have HA5 := HA4 hone
      subst hone
      clear HA4
      go_wp2_with (first
       | (go_at_call 25; (refine (HA5.out _ s ps _ hB8 hS8 hV7).mono ?_); rintro e w9 ⟨hb9, A9, c9, rfl, hA9⟩; obtain ⟨hB10, hy10, hx9, hk9⟩ := ent_lay ydn (.slice A9 yat.length c9) hB8 hb9; have hS10 := hS8.below hy10; have hV9 := hA9.below hx9; have hk7 := hk7.below hy10; have hV7 := hV7.below hy10; obtain ⟨p7, q7⟩ := hk7.c2; obtain ⟨p9, q9⟩ := hk9.c2)
       | (go_at_call 17; (refine (HAl.out _ hB10).mono ?_); rintro e w11 ⟨rfl, hb11⟩; have hB11 := hB10.trans (hb11.mono hB10.size); have hS11 := hS10.below hb11; have hk7 := hk7.below hb11; have hV7 := hV7.below hb11; have hk9 := hk9.below hb11; have hV9 := hV9.below hb11; obtain ⟨p7, q7⟩ := hk7.c2; obtain ⟨p9, q9⟩ := hk9.c2)
       | (go_at_call 23; (refine (HS2.out _ _ _ hV7 hV9).mono ?_); rintro e w12 ⟨rfl, hb12⟩; have hB12 := hB11.trans (hb12.mono hB11.size)))
      go_ret
      exact ⟨rfl, hB12⟩
     ·have hn1 : ((nn : Int) != 1) = true := bne_iff_ne.2 (by omega)
      clear HA4
      go_wp2_with (go_at_call 17; (refine (HAl.out _ hB8).mono ?_); rintro e w9 ⟨rfl, hb9⟩; have hB9 := hB8.trans (hb9.mono hB8.size))
      go_ret
      exact ⟨rfl, hB9⟩
    ·have hk2 : (k2 != 0) = true := bne_iff_ne.2 h2
     clear H12 HS HA3 HSX
     by_cases hone : nn = 1
     ·subst hone
      go_wp2_with (go_at_call 17; (refine (HAl.out _ hB8).mono ?_); rintro e w9 ⟨rfl, hb9⟩; have hB9 := hB8.trans (hb9.mono hB8.size))
      go_ret
      exact ⟨rfl, hB9⟩
     ·have hn1 : ((nn : Int) != 1) = true := bne_iff_ne.2 (by omega)
      go_wp2_with (go_at_call 17; (refine (HAl.out _ hB8).mono ?_); rintro e w9 ⟨rfl, hb9⟩; have hB9 := hB8.trans (hb9.mono hB8.size))
      go_ret
      exact ⟨rfl, hB9⟩
  ·have hcb : (code != 0) = true := bne_iff_ne.2 hc
   go_wp2_with (go_at_call 17; (refine (HAl.out _ hB4).mono ?_); rintro e w5 ⟨rfl, hb5⟩; have hB5 := hB4.trans (hb5.mono hB4.size))
   go_ret
   exact ⟨rfl, hB5⟩
 ·have hd : decide (lightN l ≤ 600) = false := decide_eq_false hlt
  rw [hd] at HLi
  clear hw hv hb ht hlt hd HBa
  go_enter Tryz.func7, Tryz.ntmps7
  go_wp2_with (first
   | (go_at_call 16; refine HLi.out.mono ?_; rintro e w1 ⟨rfl, rfl⟩)
   | (go_at_call 17; refine (HAl.out _ (Below.refl _ _)).mono ?_; rintro e w3 ⟨rfl, hb3⟩))
  go_ret
  exact ⟨rfl, hb3⟩
open Go.RowKit
theorem permits_c (nm : LU) (l : List Ent.AttrE) (v : Value) (ms : List Ent.ModE) (u : Value) (W : World) (hw : Env W) (hl : AttrsA W v l) (hm : ModsA W u ms) (hb : (l.map fun a => 1 + attrW a).sum + (ms.map fun a => modW a).sum + nm.length ≤ 1048576) :
  Calls Tryz.prog 7 #[.string ⟨nm.toArray⟩, v, u] W fun e w' => e = .returned (.bool true) ∧ Below W.heap.size W w' := by
 obtain ⟨h1, h2⟩ := bulk_light l
 obtain ⟨h3, h4⟩ := bulk_mods ms
 obtain ⟨A, c, rfl, hc⟩ := hl.isSlice
 obtain ⟨Am, cm, rfl⟩ := hm.isSlice
 exact permits_main nm l A l.length c rfl ms Am ms.length cm rfl W hw hl hm (by omega) (fun a ha => by have := (h2 a ha).1; omega) (fun a ha v hv => by have := (h2 a ha).2 v hv; show _ ≤ _; omega) (by omega) (fun m hm => by
  obtain ⟨a1, a2, a3⟩ := h4 m hm
  exact ⟨by omega, by omega, fun v hv => by have := a3 v hv; show _ ≤ _; omega⟩)
end Go.Proofs.YtkkbbhlihilnpaaGreatDoor
namespace Go.Proofs.YtkkbbhlihilnpaaGreatDoor.entryPermits
open Go.ChangeShapes Go.WideShapes Go.ChangeAt Go.RowKit Go.Lib Go.Shelf
open Go.ChangeMaps (open_string shut_string)
theorem lifted (os : Os) (started : os.Started) (H : Type) (enc : TypeId × Value → H) (F : Stop.Interp) :
  ReturnsInHanded {} Tryz.checked os 7 .any ((Rows.OpenSpec.upto Rows.entryPermitsSpec).preRow enc Tryz.prog Tryz.f7 Rows.entryPermitsUptoRow.domain false Rows.entryPermitsUptoRow.laid) (((Rows.OpenSpec.upto Rows.entryPermitsSpec).at F).post enc Tryz.prog Tryz.f7 false true false false) := by
 obtain ⟨places, hx⟩ := reads os enc
 rw [row_laid]
 refine returnsInHanded_of_row (C := Tryz.checked) (s := Rows.OpenSpec.upto Rows.entryPermitsSpec) own started (by kernel_rfl) Tryz.func7
  (witness_row_atRef (enc := enc) (C := Tryz.checked) false (laidWorld os) #[.string ⟨#[]⟩, .slice none 0 0, .slice none 0 0] rfl (by kernel_rfl) (by kernel_rfl) (by kernel_rfl)
   (OpenSpec.preRow_of_cond 8 hx (by kernel_rfl) (fun k hk => by cases hk; kernel_rfl) (by kernel_rfl) (laid_met os _))) ?_
 intro W base args ds gs before hval0 hW _ hcond hsz hL hsh _
 have hk : Rows.uptoSmall H (ds ++ gs) = true := hcond _ rfl
 have hval : ∀ (j : Nat) t v, Tryz.f7.params[j]? = some t → args[j]? = some v → Value.okWide Tryz.prog W .any base t v := hval0
 have hW' := hW
 obtain ⟨p, q, hA0, hV0, rfl, _, _⟩ := hW
 have hA : DataW.TrodAll enc Tryz.prog W 0 (fun _ => true) true Tryz.f7.params.toList args.toList ds p := hA0
 rw [Tryz.params7] at hA hval
 obtain ⟨v0, v1, v2, d0, d1, d2, p0, p1, p2, rfl, rfl, rfl, h0, h1, h2⟩ := trodAll_n hA
 obtain ⟨rfl, rfl⟩ := trodVars_none hV0
 obtain ⟨⟨⟨s0⟩⟩, rfl, rfl, rfl, ws0⟩ := open_string Tryz.underlying9 (hval 0 9 v0 rfl rfl) h0
 have hlt1 : ∀ x ∈ p1, x.block < W.heap.size := fun x hx => hW'.lt x (by simp [hx])
 obtain ⟨a1, len1, cap1, rfl⟩ := okWide_slice Tryz.underlying32 (hval 1 32 v1 rfl rfl)
 obtain ⟨l1, hl1, hb1⟩ := attrs_arg h1
 have hlt2 : ∀ x ∈ p2, x.block < W.heap.size := fun x hx => hW'.lt x (by simp [hx])
 obtain ⟨a2, len2, cap2, rfl⟩ := okWide_slice Tryz.underlying56 (hval 2 56 v2 rfl rfl)
 obtain ⟨l2, hl2, hb2⟩ := mods_arg h2
 have hbk : (l1.map fun a => 1 + attrW a).sum + (l2.map fun a => modW a).sum + s0.length ≤ 1048576 := by
  have hb : Rows.uptoBulkAll ([DataW.lit (.string s0), d1, d2] ++ ([] : List (DataW H))) ≤ 1048576 := of_decide_eq_true hk
  simp only [List.append_nil, Rows.uptoBulkAll, Rows.uptoBulk] at hb
  omega
 clear hA0 hV0 hval0
 refine (permits_c s0 l1 _ l2 _ W (env_of hL hsh) hl1 hl2 hbk).mono ?_
 rintro e W' ⟨rfl, bel⟩
 refine ⟨_, rfl, _, _, _, [], [] ++ (p1 ++ (p2)), [], hW', ?_, ?_, ?_, bel.frame _, fun h => by cases h⟩
 ·exact trodAll_mk1 (shut_bool Tryz.underlying4 _)
 ·exact ⟨[], _, (shut_string Tryz.underlying9 ws0), ⟨p1, _, (Below.trod laidOut (by as_aux_lemma => kernel_rfl) (of_decide_eq_true (by as_aux_lemma => kernel_rfl)) h1 bel hlt1), trodAll_mk1 (Below.trod laidOut (by as_aux_lemma => kernel_rfl) (of_decide_eq_true (by as_aux_lemma => kernel_rfl)) h2 bel hlt2), rfl⟩, rfl⟩
 ·rfl
theorem card : Rows.EntryPermitsUptoCardSaid := card_of lifted
end Go.Proofs.YtkkbbhlihilnpaaGreatDoor.entryPermits
