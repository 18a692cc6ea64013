import Derived.Test.YtkkbbhlihilnpaaGreatDoorWs7
import Derived.Test.YtkkbbhlihilnpaaGreatDoorWs8
set_option linter.all false
set_option maxHeartbeats 8000000
set_option maxRecDepth 100000
namespace Go.Proofs.YtkkbbhlihilnpaaGreatDoor
open Go.RowKit
theorem passes_main (nm : LU) (l : List Ent.AttrE) (A : Option Addr) (n c : Nat) (hn : l.length = n) (ms : List Ent.ModE) (Am : Option Addr) (nn cm : Nat) (hnn : ms.length = nn) (perm : Bool) (w : World) (hw : Env w) (hv : AttrsA w (.slice A n c) l) (hmv : ModsA w (.slice Am nn cm) ms) (hb : lightN l ≤ 1048576) (ht : ∀ a ∈ l, a.typ.length ≤ 1048576) (hlv : ∀ a ∈ l, ∀ v ∈ a.vals, ShortV v) (hml : ms.length ≤ 1048576) (hms : ∀ m ∈ ms, m.typ.length ≤ 1048576 ∧ m.vals.length ≤ 1048576 ∧ ∀ v ∈ m.vals, ShortV v) :
  Calls Tryz.prog 6 #[.string ⟨nm.toArray⟩, .slice A n c, .slice Am nn cm, .bool perm] w fun e w' => e = .returned (.bool true) ∧ Below w.heap.size w w' := by
 have HAl := hiD (fun (W : World) (h : Below w.heap.size w W) => alive7_c W (hw.keep h))
 have HLi := hiD (light7_c l _ w hv hb)
 have HBa := hiD (base7_c w hw)
 by_cases hlt : lightN l ≤ 600
 ·have hd : decide (lightN l ≤ 600) = true := decide_eq_true hlt
  rw [hd] at HLi
  have hll : l.length ≤ 600 := Nat.le_trans (light_len l) hlt
  by_cases h60 : nn > 60
  ·have hgt : (60 : Int) < (nn : Int) := by omega
   clear hw hv hb ht hlt hd HBa
   go_enter Tryz.func6, Tryz.ntmps6
   go_wp2_with (first
    | (go_at_call 16; refine HLi.out.mono ?_; rintro e w1 ⟨rfl, rfl⟩)
    | (go_at_call 17; refine (HAl.out _ (Below.refl _ _)).mono ?_; rintro e w3 ⟨rfl, hb3⟩))
   go_ret
   exact ⟨rfl, hb3⟩
  have hgt : ¬ ((60 : Int) < (nn : Int)) := by omega
  obtain ⟨⟨code, en⟩, hR⟩ : ∃ R, Ent.makeE (schE baseL) nm l = R := ⟨_, rfl⟩
  have HM : Hid (∀ (W : World) (s : Nat) (ps : List Nat), Below w.heap.size w W → SchAt W s ps baseL → Calls Tryz.prog 19 #[.pointer (some ⟨s, 0, none⟩), .string ⟨nm.toArray⟩, .slice A n c] W (QRet W (code, en))) := hiD fun W s ps h hS => by
   have := MakeQ_c s ps nm l _ W (hw.keep h) hS (hv.below h) (by omega) (light_lim hlt ht)
   rw [hR] at this
   exact this
  unfold QRet at HM
  obtain ⟨edn, eat⟩ := en
  simp only at HM
  go_enter Tryz.func6, Tryz.ntmps6
  go_upto_region 5 with (first
   | (go_at_call 16; refine HLi.out.mono ?_; rintro e w1 ⟨rfl, rfl⟩)
   | (go_at_call 18; refine HBa.out.mono ?_; rintro e w2 ⟨s, ps, rfl, hB2, hS2⟩)
   | (go_at_call 19; (with_reducible refine (HM.out _ s ps hB2 hS2).mono ?_); rintro e w3 ⟨hb3, A3, c3, rfl, hA3⟩; obtain ⟨hB4, hy4, hx3, hk3⟩ := ent_lay edn (.slice A3 eat.length c3) hB2 hb3; have hS4 := hS2.below hy4; have hV3 := hA3.below hx3; obtain ⟨p3, q3⟩ := hk3.c2))
  by_cases hc : code = 0
  ·subst hc
   have hB4' := hiD hB4
   obtain ⟨hright, hshort⟩ := make_good hlv hR
   obtain ⟨⟨code2, x⟩, hX⟩ : ∃ X, Ent.applyE (schE baseL) ⟨edn, eat⟩ ms perm = X := ⟨_, rfl⟩
   have HAp : Hid (∀ (W : World) (s : Nat) (ps : List Nat) (va : Value), Below w.heap.size w W → SchAt W s ps baseL → AttrsA W va eat → Calls Tryz.prog 25 #[.pointer (some ⟨s, 0, none⟩), .agg #[.string ⟨edn.toArray⟩, va], .slice Am nn cm, .bool perm] W (QRet W (code2, x))) := hiD fun W s ps va h hS hva => by
    have := ApplyQ_c s ps ⟨edn, eat⟩ va ms _ perm W (hw.keep h) hS hright hshort hva (hmv.below h) hml hms
    rw [hX] at this
    exact this
   unfold QRet at HAp
   have HGood := hiD (fun (h : code2 = 0) => apply_right hright hshort hms (h ▸ hX))
   have HLaw := hiD (fun (h : code2 = 0) => Ent.passes_law (schE_law base_sound.says) hR (h ▸ hX))
   have HM2 : Hid (code2 = 0 → ∀ (W : World) (s : Nat) (ps : List Nat) (va : Value), Below w.heap.size w W → SchAt W s ps baseL → AttrsA W va x.attrs → Calls Tryz.prog 19 #[.pointer (some ⟨s, 0, none⟩), .string ⟨x.dn.toArray⟩, va] W (QRet W (0, x))) := hiD fun h0 W s ps va h hS hva => by
    have hlim := right_lim (HGood.out h0).1
    have := MakeQ_c s ps x.dn x.attrs va W (hw.keep h) hS hva hlim.2.2.2.1 hlim.1
    rw [(HLaw.out h0).1] at this
    exact this
   unfold QRet at HM2
   have HS := hiD (fun (h : code2 = 0) W v1 v2 h1 h2 => SameQ_c x v1 v2 W (HGood.out h).1 h1 h2)
   have HCk : Hid (code2 = 0 → ∀ (W : World) (s : Nat) (ps : List Nat) (va : Value), SchAt W s ps baseL → AttrsA W va x.attrs → Calls Tryz.prog 24 #[.pointer (some ⟨s, 0, none⟩), .agg #[.string ⟨x.dn.toArray⟩, va]] W fun e w' => e = .returned (.int .i64 0) ∧ Below W.heap.size W w') := hiD fun h0 W s ps va hS hva => by
    have hlim := right_lim (HGood.out h0).1
    have := CheckB_c s ps x va W hS hva hlim.2.2.2.1 hlim.2.2.1 hlim.2.1 (fun y hy => Nat.le_trans ((HGood.out h0).2.find Ent.wObj y hy) (by decide))
    rw [(HLaw.out h0).2.1] at this
    exact this
   have HDn := hiD (fun (h : code2 = 0) => (HLaw.out h).2.2)
   have HZ := hiD (fun (h : code2 ≠ 0) => Ent.apply_code (S := schE baseL) (e := ⟨edn, eat⟩) (ms := ms) (perm := perm) (by rw [hX]; exact h))
   rw [hX] at HZ
   obtain ⟨xdn, xat⟩ := x
   simp only at HAp HM2 HS HCk HDn HZ
   clear hR hX hw hv hb ht hlt hd hll hlv hml hms hmv hright hshort h60 HGood HLaw
   go_upto_region 8 with (go_at_call 25; (with_reducible refine (HAp.out _ s ps _ hB4 hS4 hV3).mono ?_); rintro e w5 ⟨hb5, A5, c5, rfl, hA5⟩; obtain ⟨hB6, hy6, hx5, hk5⟩ := ent_lay xdn (.slice A5 xat.length c5) hB4 hb5; have hS6 := hS4.below hy6; have hV5 := hA5.below hx5; have hk3 := hk3.below hy6; have hV3 := hV3.below hy6; obtain ⟨p3, q3⟩ := hk3.c2; obtain ⟨p5, q5⟩ := hk5.c2)
   by_cases hc2 : code2 = 0
   ·have HM3 := hiD (HM2.out hc2)
    have HS3 := hiD (HS.out hc2)
    have HC3 := hiD (HCk.out hc2)
    have hdn := hiD (HDn.out hc2)
    subst hc2
    clear HM2 HS HCk HDn HZ HAp
    go_wp2_with (first
     | (go_at_call 19; (with_reducible refine (HM3.out _ s ps _ hB6 hS6 hV5).mono ?_); rintro e w7 ⟨hb7, A7, c7, rfl, hA7⟩; obtain ⟨hB8, hy8, hx7, hk7⟩ := ent_lay xdn (.slice A7 xat.length c7) hB6 hb7; have hS8 := hS6.below hy8; have hV7 := hA7.below hx7; have hk3 := hk3.below hy8; have hV3 := hV3.below hy8; have hk5 := hk5.below hy8; have hV5 := hV5.below hy8; obtain ⟨p3, q3⟩ := hk3.c2; obtain ⟨p5, q5⟩ := hk5.c2; obtain ⟨p7, q7⟩ := hk7.c2)
     | (go_at_call 17; (with_reducible refine (HAl.out _ hB8).mono ?_); rintro e w9 ⟨rfl, hb9⟩; have hB9 := hB8.trans (hb9.mono hB8.size); have hS9 := hS8.below hb9; have hk3 := hk3.below hb9; have hV3 := hV3.below hb9; have hk5 := hk5.below hb9; have hV5 := hV5.below hb9; have hk7 := hk7.below hb9; have hV7 := hV7.below hb9; obtain ⟨p3, q3⟩ := hk3.c2; obtain ⟨p5, q5⟩ := hk5.c2; obtain ⟨p7, q7⟩ := hk7.c2)
     | (go_at_call 23; (with_reducible refine (HS3.out _ _ _ hV5 hV7).mono ?_); rintro e w10 ⟨rfl, hb10⟩; have hB10 := hB9.trans (hb10.mono hB9.size); have hS10 := hS9.below hb10; have hk3 := hk3.below hb10; have hV3 := hV3.below hb10; have hk5 := hk5.below hb10; have hV5 := hV5.below hb10; obtain ⟨p3, q3⟩ := hk3.c2; obtain ⟨p5, q5⟩ := hk5.c2)
     | (go_at_call 24; (with_reducible refine (HC3.out _ s ps _ hS10 hV5).mono ?_); rintro e w11 ⟨rfl, hb11⟩; have hB11 := hB10.trans (hb11.mono hB10.size); have hS11 := hS10.below hb11; have hk3 := hk3.below hb11; have hV3 := hV3.below hb11; have hk5 := hk5.below hb11; have hV5 := hV5.below hb11; obtain ⟨p3, q3⟩ := hk3.c2; obtain ⟨p5, q5⟩ := hk5.c2))
    go_ret
    exact ⟨retb (by simp [hdn.out]), hB11⟩
   ·have hz := HZ.out hc2
    have hcb : (code2 != 0) = true := bne_iff_ne.2 hc2
    obtain ⟨rfl, rfl⟩ : xdn = [] ∧ xat = [] := by
     injection hz with h1 h2
     exact ⟨h1, h2⟩
    simp only [List.length_nil] at hB6 hk3 hV3 hk5 hV5 p5 q5 ⊢
    go_wp2_with (first
     | (go_at_call 17; (with_reducible refine (HAl.out _ hB6).mono ?_); rintro e w7 ⟨rfl, hb7⟩; have hB7 := hB6.trans (hb7.mono hB6.size); have hk3 := hk3.below hb7; have hV3 := hV3.below hb7; have hk5 := hk5.below hb7; have hV5 := hV5.below hb7; obtain ⟨p3, q3⟩ := hk3.c2; obtain ⟨p5, q5⟩ := hk5.c2)
     | (go_at_call 26; (with_reducible refine (Same0_c _ _ _).mono ?_); rintro e w8 ⟨rfl, hb8⟩; have hB8 := hB7.trans (hb8.mono hB7.size)))
    go_ret
    exact ⟨rfl, hB8⟩
  ·have hcb : (code != 0) = true := bne_iff_ne.2 hc
   go_wp2_with (go_at_call 17; (with_reducible refine (HAl.out _ hB4).mono ?_); rintro e w5 ⟨rfl, hb5⟩; have hB5 := hB4.trans (hb5.mono hB4.size))
   go_ret
   exact ⟨rfl, hB5⟩
 ·have hd : decide (lightN l ≤ 600) = false := decide_eq_false hlt
  rw [hd] at HLi
  clear hw hv hb ht hlt hd HBa
  go_enter Tryz.func6, Tryz.ntmps6
  go_wp2_with (first
   | (go_at_call 16; refine HLi.out.mono ?_; rintro e w1 ⟨rfl, rfl⟩)
   | (go_at_call 17; refine (HAl.out _ (Below.refl _ _)).mono ?_; rintro e w3 ⟨rfl, hb3⟩))
  go_ret
  exact ⟨rfl, hb3⟩
open Go.RowKit
theorem passes_c (nm : LU) (l : List Ent.AttrE) (v : Value) (ms : List Ent.ModE) (u : Value) (perm : Bool) (W : World) (hw : Env W) (hl : AttrsA W v l) (hm : ModsA W u ms) (hb : (l.map fun a => 1 + attrW a).sum + (ms.map fun a => modW a).sum + nm.length ≤ 1048576) :
  Calls Tryz.prog 6 #[.string ⟨nm.toArray⟩, v, u, .bool perm] W fun e w' => e = .returned (.bool true) ∧ Below W.heap.size W w' := by
 obtain ⟨h1, h2⟩ := bulk_light l
 obtain ⟨h3, h4⟩ := bulk_mods ms
 obtain ⟨A, c, rfl, hc⟩ := hl.isSlice
 obtain ⟨Am, cm, rfl⟩ := hm.isSlice
 exact passes_main nm l A l.length c rfl ms Am ms.length cm rfl perm W hw hl hm (by omega) (fun a ha => by have := (h2 a ha).1; omega) (fun a ha v hv => by have := (h2 a ha).2 v hv; show _ ≤ _; omega) (by omega) (fun m hm => by
  obtain ⟨a1, a2, a3⟩ := h4 m hm
  exact ⟨by omega, by omega, fun v hv => by have := a3 v hv; show _ ≤ _; omega⟩)
end Go.Proofs.YtkkbbhlihilnpaaGreatDoor
namespace Go.Proofs.YtkkbbhlihilnpaaGreatDoor.entryPasses
open Go.ChangeShapes Go.WideShapes Go.ChangeAt Go.RowKit Go.Lib Go.Shelf
open Go.ChangeMaps (open_string shut_string)
theorem lifted (os : Os) (started : os.Started) (H : Type) (enc : TypeId × Value → H) (F : Stop.Interp) :
  ReturnsInHanded {} Tryz.checked os 6 .any ((Rows.OpenSpec.upto Rows.entryPassesSpec).preRow enc Tryz.prog Tryz.f6 Rows.entryPassesUptoRow.domain false Rows.entryPassesUptoRow.laid) (((Rows.OpenSpec.upto Rows.entryPassesSpec).at F).post enc Tryz.prog Tryz.f6 false true false false) := by
 obtain ⟨places, hx⟩ := reads os enc
 rw [row_laid]
 refine returnsInHanded_of_row (C := Tryz.checked) (s := Rows.OpenSpec.upto Rows.entryPassesSpec) own started (by kernel_rfl) Tryz.func6
  (witness_row_atRef (enc := enc) (C := Tryz.checked) false (laidWorld os) #[.string ⟨#[]⟩, .slice none 0 0, .slice none 0 0, .bool false] rfl (by kernel_rfl) (by kernel_rfl) (by kernel_rfl)
   (OpenSpec.preRow_of_cond 8 hx (by kernel_rfl) (fun k hk => by cases hk; kernel_rfl) (by kernel_rfl) (laid_met os _))) ?_
 intro W base args ds gs before hval0 hW _ hcond hsz hL hsh _
 have hk : Rows.uptoSmall H (ds ++ gs) = true := hcond _ rfl
 have hval : ∀ (j : Nat) t v, Tryz.f6.params[j]? = some t → args[j]? = some v → Value.okWide Tryz.prog W .any base t v := hval0
 have hW' := hW
 obtain ⟨p, q, hA0, hV0, rfl, _, _⟩ := hW
 have hA : DataW.TrodAll enc Tryz.prog W 0 (fun _ => true) true Tryz.f6.params.toList args.toList ds p := hA0
 rw [Tryz.params6] at hA hval
 obtain ⟨v0, v1, v2, v3, d0, d1, d2, d3, p0, p1, p2, p3, rfl, rfl, rfl, h0, h1, h2, h3⟩ := trodAll_n hA
 obtain ⟨rfl, rfl⟩ := trodVars_none hV0
 obtain ⟨⟨⟨s0⟩⟩, rfl, rfl, rfl, ws0⟩ := open_string Tryz.underlying9 (hval 0 9 v0 rfl rfl) h0
 have hlt1 : ∀ x ∈ p1, x.block < W.heap.size := fun x hx => hW'.lt x (by simp [hx])
 obtain ⟨a1, len1, cap1, rfl⟩ := okWide_slice Tryz.underlying32 (hval 1 32 v1 rfl rfl)
 obtain ⟨l1, hl1, hb1⟩ := attrs_arg h1
 have hlt2 : ∀ x ∈ p2, x.block < W.heap.size := fun x hx => hW'.lt x (by simp [hx])
 obtain ⟨a2, len2, cap2, rfl⟩ := okWide_slice Tryz.underlying56 (hval 2 56 v2 rfl rfl)
 obtain ⟨l2, hl2, hb2⟩ := mods_arg h2
 obtain ⟨s3, rfl, rfl, rfl⟩ := open_bool Tryz.underlying4 (hval 3 4 v3 rfl rfl) h3
 have hbk : (l1.map fun a => 1 + attrW a).sum + (l2.map fun a => modW a).sum + s0.length ≤ 1048576 := by
  have hb : Rows.uptoBulkAll ([DataW.lit (.string s0), d1, d2, DataW.lit (.bool s3)] ++ ([] : List (DataW H))) ≤ 1048576 := of_decide_eq_true hk
  simp only [List.append_nil, Rows.uptoBulkAll, Rows.uptoBulk] at hb
  omega
 clear hA0 hV0 hval0
 refine (passes_c s0 l1 _ l2 _ s3 W (env_of hL hsh) hl1 hl2 hbk).mono ?_
 rintro e W' ⟨rfl, bel⟩
 refine ⟨_, rfl, _, _, _, [], [] ++ (p1 ++ (p2 ++ ([]))), [], hW', ?_, ?_, ?_, bel.frame _, fun h => by cases h⟩
 ·exact trodAll_mk1 (shut_bool Tryz.underlying4 _)
 ·exact ⟨[], _, (shut_string Tryz.underlying9 ws0), ⟨p1, _, (Below.trod laidOut (by as_aux_lemma => kernel_rfl) (of_decide_eq_true (by as_aux_lemma => kernel_rfl)) h1 bel hlt1), ⟨p2, _, (Below.trod laidOut (by as_aux_lemma => kernel_rfl) (of_decide_eq_true (by as_aux_lemma => kernel_rfl)) h2 bel hlt2), trodAll_mk1 (shut_bool Tryz.underlying4 s3), rfl⟩, rfl⟩, rfl⟩
 ·rfl
theorem card : Rows.EntryPassesUptoCardSaid := card_of lifted
end Go.Proofs.YtkkbbhlihilnpaaGreatDoor.entryPasses
