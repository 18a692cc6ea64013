import Derived.Test.YtkkbbhlihilnpaaGreatDoorWva7
set_option linter.all false
set_option maxHeartbeats 8000000
namespace Go.Proofs.YtkkbbhlihilnpaaGreatDoor
open Go.RowKit
def isHex (c : UInt8) : Bool := decide (0 ≤ digitV c.toNat)
def hexR (t : List UInt8) : Option (List UInt8 × List UInt8) := match unhexL (t.takeWhile isHex) with
 | none => none
 | some v => if v = [] then none else some (v, t.dropWhile isHex)
set_option maxRecDepth 10000 in
theorem hex_c (b : Nat) (s t : List UInt8) (x : UInt8) (w : World) (h : RdAt w b s (x :: t)) (hs : s.length ≤ 65536) :
  Calls Tryz.prog 272 #[.pointer (some ⟨b, 0, none⟩)] w (RdRet w b s ((hexR t).map fun x => (.string ⟨x.1.toArray⟩, x.2))) := by
 have hget := ba_get
 have hext := ba_ext
 obtain ⟨i0, hi0, hd0, hRd0⟩ := h
 have ⟨hlt0, hdt⟩ := drop_succ hd0
 subst hdt
 clear hd0
 have hc1 := hRd0.c1
 have hf1 := hRd0.f1
 have HR0 := Lib.hid hRd0
 clear hRd0
 go_enter Tryz.func272, Tryz.ntmps272
 go_wp2_with fail
 have hRd1 : Rd (w.setCell ⟨b, 1, none⟩ (.int .i64 ((i0 : Int) + 1))) b s (i0 + 1) := HR0.out.set (i0 + 1)
 have hg1 : w.grownBy (w.setCell ⟨b, 1, none⟩ (.int .i64 ((i0 : Int) + 1))) (some b) := grown_set _
 generalize w.setCell ⟨b, 1, none⟩ (.int .i64 ((i0 : Int) + 1)) = w0 at *
 clear hc1 hf1
 have hc1 := hRd1.c1
 have ec : ((i0 + 1 : Nat) : Int) = (i0 : Int) + 1 := by omega
 rw [ec] at hc1
 clear ec
 go_wp2_with fail
 clear hc1
 rw [show ((i0 : Int) + 1) = ((i0 + 1 : Nat) : Int) from by omega]
 obtain ⟨i, rfl⟩ : ∃ i, i = i0 + 1 := ⟨_, rfl⟩
 generalize hie : i0 + 1 = i at *
 have hi : i ≤ s.length := by omega
 have HRi := Lib.hid hRd1
 have HIE := Lib.hid hie
 clear hRd1 hie
 go_loopg [] (s.length - i) (fun gk wr => ∃ j, i ≤ j ∧ j ≤ s.length ∧ s.length - j ≤ gk ∧ Rd wr b s j ∧ Aside ((sub s i j).all isHex = true) ∧ w.grownBy wr (some b))
 case atStart => exact ⟨i, Nat.le_refl _, hi, Nat.le_refl _, HRi.out, by show _ = _; simp [sub], hg1⟩
 case round =>
  obtain ⟨j, hij, hj, hgk, hRd, AT, hg⟩ := hrel
  have h0 := hRd.c0
  have h1 := hRd.c1
  have hf1 := hRd.f1
  have hEn := fun w' (hR : Rd w' b s j) => ended_c b s j w' hR
  have HRj := Lib.hid hRd
  clear hRd
  have hsl : (sub s i j).length ≤ 1099511627776 := by rw [sub_len]; omega
  have hi0 : (0 : Int) ≤ (i : Int) := by omega
  have hij' : (i : Int) ≤ (j : Int) := by omega
  have hjl' : (j : Int) ≤ (s.length : Int) := by omega
  by_cases hc : ∃ hlt : j < s.length, 0 ≤ digitV s[j].toNat
  ·obtain ⟨hlt, hty⟩ := hc
   have hb : ((j : Int) == (s.length : Int)) = false := by rw [beq_eq_false_iff_ne]; omega
   rw [hb] at hEn
   have hj1 : (j : Int) < (s.length : Int) := by omega
   have hIT := fun w => Digit_c (s[j].toNat) w (by omega) (by have := UInt8.toNat_lt s[j]; omega)
   have AT' : Aside ((sub s i (j + 1)).all isHex = true) := by
    have := AT.out
    show _ = _
    rw [show sub s i (j + 1) = sub s i j ++ [s[j]] by
     unfold sub
     rw [show j + 1 - i = (j - i) + 1 by omega, List.take_add_one, List.getElem?_drop, show i + (j - i) = j by omega, List.getElem?_eq_getElem hlt]; rfl]
    simp only [List.all_append, this, Bool.true_and, List.all_cons, List.all_nil, Bool.and_true]
    exact decide_eq_true hty
   have HEn := Lib.hid hEn
   clear hEn hb AT
   go_wp2_with fail
   go_quiet (first | (go_at_call 181; exact quiet_of' (HEn.out _ (HRj.out.drewN _))) | (go_at_call 278; exact quiet_l (hIT _)))
   go_wp2_with fail
   go_roundg (s.length - (j + 1))
   case measure => omega
   case rel => exact ⟨j + 1, by omega, by omega, Nat.le_refl _, (HRj.out.drewN nq).set (j + 1), AT'.out, World.grownBy.trans hg (World.grownBy.trans (grown_drewN _ _ _) (grown_set _))⟩
  ·have hstop : (s.drop j).takeWhile isHex = [] := by
    cases hd' : s.drop j with
    | nil => rfl
    | cons x t =>
     have ⟨hlt, _⟩ := drop_succ hd'
     have hx : s[j] = x := by rw [List.drop_eq_getElem_cons hlt] at hd'; exact (List.cons.inj hd').1
     have : isHex x = false := by
      cases h : isHex x
      ·rfl
      ·exact absurd ⟨hlt, by rw [hx]; exact of_decide_eq_true h⟩ hc
     simp [this]
   have hcut := takeWhile_cut (p := isHex) (s.drop i) (s.drop j) ⟨j - i, by rw [List.drop_drop]; congr 1; omega, by have := AT.out; unfold sub at this; exact this⟩ hstop
   have htyp : hexR (s.drop i) = match unhexL (sub s i j) with | none => none | some v => if v = [] then none else some (v, s.drop j) := by
    unfold hexR
    rw [hcut.1, hcut.2]
    have : (s.drop i).take ((s.drop i).length - (s.drop j).length) = sub s i j := by unfold sub; congr 1; simp; omega
    rw [this]
   have HT := Lib.hid htyp
   clear htyp hcut hstop AT
   have hEW : ∀ n w2, Below wr.heap.size (wr.drewN n) w2 → w.grownBy w2 (some b) := fun n w2 hb => World.grownBy.trans hg (World.grownBy.trans (grown_drewN _ n _) (grown_below hb _))
   have HEW := Lib.hid hEW
   clear hEW
   by_cases hlt : j < s.length
   ·have hb : ((j : Int) == (s.length : Int)) = false := by rw [beq_eq_false_iff_ne]; omega
    rw [hb] at hEn
    have hj1 : (j : Int) < (s.length : Int) := by omega
    have hIT := fun w => Digit_c (s[j].toNat) w (by omega) (by have := UInt8.toNat_lt s[j]; omega)
    have hty : ¬ 0 ≤ digitV s[j].toNat := fun h => hc ⟨hlt, h⟩
    have hty' : digitV s[j].toNat < 0 := by omega
    have HEn := Lib.hid hEn
    clear hEn hb hty hc
    go_wp2_with fail
    go_quiet (first | (go_at_call 181; exact quiet_of' (HEn.out _ (HRj.out.drewN _))) | (go_at_call 278; exact quiet_l (hIT _)))
    go_wp2_with fail
    rcases hT : unhexL (sub s i j) with _ | v
    ·have hty : hexR (s.drop i) = none := by rw [HT.out, hT]
     have Hty := Lib.hid hty
     clear hty
     go_region_held3 (fun w' => w'.cell? ⟨b, 0, none⟩ = some (.string ⟨s.toArray⟩) ∧ w'.cell? ⟨b, 1, none⟩ = some (.int .i64 j)) (first | exact ⟨h0, h1⟩ | exact ⟨hc0', hc1'⟩) (first | (go_at_call 279; refine (Unhex_c _ _ hsl).mono ?_; rintro e w2 ⟨rfl, hb2⟩; rw [hT]; simp only [strOr]; have hR2 := (HRj.out.drewN (nq + 1)).below hb2; have hc0' := hR2.c0; have hc1' := hR2.c1))
     have HR2 := Lib.hid hR2
     clear HRj h0 h1 hR2
     go_wp2_with fail
     refine ⟨rfl, ?_⟩
     rw [HIE.out, Hty.out]
     exact ⟨HEW.out _ _ hb2, rfl⟩
    ·by_cases hv : v = []
     ·have hty : hexR (s.drop i) = none := by rw [HT.out, hT]; dsimp only; rw [if_pos hv]
      have Hty := Lib.hid hty
      subst hv
      clear hty
      go_region_held3 (fun w' => w'.cell? ⟨b, 0, none⟩ = some (.string ⟨s.toArray⟩) ∧ w'.cell? ⟨b, 1, none⟩ = some (.int .i64 j)) (first | exact ⟨h0, h1⟩ | exact ⟨hc0', hc1'⟩) (first | (go_at_call 279; refine (Unhex_c _ _ hsl).mono ?_; rintro e w2 ⟨rfl, hb2⟩; rw [hT]; simp only [strOr]; have hR2 := (HRj.out.drewN (nq + 1)).below hb2; have hc0' := hR2.c0; have hc1' := hR2.c1))
      have HR2 := Lib.hid hR2
      clear HRj h0 h1 hR2
      go_wp2_with fail
      refine ⟨rfl, ?_⟩
      rw [HIE.out, Hty.out]
      exact ⟨HEW.out _ _ hb2, rfl⟩
     ·have hty : hexR (s.drop i) = some (v, s.drop j) := by rw [HT.out, hT]; dsimp only; rw [if_neg hv]
      have Hty := Lib.hid hty
      have hve : v.isEmpty = false := by cases v <;> simp_all
      clear hty
      go_region_held3 (fun w' => w'.cell? ⟨b, 0, none⟩ = some (.string ⟨s.toArray⟩) ∧ w'.cell? ⟨b, 1, none⟩ = some (.int .i64 j)) (first | exact ⟨h0, h1⟩ | exact ⟨hc0', hc1'⟩) (first | (go_at_call 279; refine (Unhex_c _ _ hsl).mono ?_; rintro e w2 ⟨rfl, hb2⟩; rw [hT]; simp only [strOr]; have hR2 := (HRj.out.drewN (nq + 1)).below hb2; have hc0' := hR2.c0; have hc1' := hR2.c1))
      have HR2 := Lib.hid hR2
      clear HRj h0 h1 hR2
      go_wp2_with fail
      go_ret
      rw [HIE.out, Hty.out]
      exact ⟨HEW.out _ _ hb2, rfl, j, hj, rfl, HR2.out⟩
   ·obtain rfl : j = s.length := by omega
    have hb : ((s.length : Int) == (s.length : Int)) = true := by simp
    rw [hb] at hEn
    have HEn := Lib.hid hEn
    clear hEn hb hc
    go_wp2_with fail
    go_quiet (first | (go_at_call 181; exact quiet_of' (HEn.out _ (HRj.out.drewN _))))
    go_wp2_with fail
    rcases hT : unhexL (sub s i s.length) with _ | v
    ·have hty : hexR (s.drop i) = none := by rw [HT.out, hT]
     have Hty := Lib.hid hty
     clear hty
     go_region_held3 (fun w' => w'.cell? ⟨b, 0, none⟩ = some (.string ⟨s.toArray⟩) ∧ w'.cell? ⟨b, 1, none⟩ = some (.int .i64 s.length)) (first | exact ⟨h0, h1⟩ | exact ⟨hc0', hc1'⟩) (first | (go_at_call 279; refine (Unhex_c _ _ hsl).mono ?_; rintro e w2 ⟨rfl, hb2⟩; rw [hT]; simp only [strOr]; have hR2 := (HRj.out.drewN (nq + 1)).below hb2; have hc0' := hR2.c0; have hc1' := hR2.c1))
     have HR2 := Lib.hid hR2
     clear HRj h0 h1 hR2
     go_wp2_with fail
     refine ⟨rfl, ?_⟩
     rw [HIE.out, Hty.out]
     exact ⟨HEW.out _ _ hb2, rfl⟩
    ·by_cases hv : v = []
     ·have hty : hexR (s.drop i) = none := by rw [HT.out, hT]; dsimp only; rw [if_pos hv]
      have Hty := Lib.hid hty
      subst hv
      clear hty
      go_region_held3 (fun w' => w'.cell? ⟨b, 0, none⟩ = some (.string ⟨s.toArray⟩) ∧ w'.cell? ⟨b, 1, none⟩ = some (.int .i64 s.length)) (first | exact ⟨h0, h1⟩ | exact ⟨hc0', hc1'⟩) (first | (go_at_call 279; refine (Unhex_c _ _ hsl).mono ?_; rintro e w2 ⟨rfl, hb2⟩; rw [hT]; simp only [strOr]; have hR2 := (HRj.out.drewN (nq + 1)).below hb2; have hc0' := hR2.c0; have hc1' := hR2.c1))
      have HR2 := Lib.hid hR2
      clear HRj h0 h1 hR2
      go_wp2_with fail
      refine ⟨rfl, ?_⟩
      rw [HIE.out, Hty.out]
      exact ⟨HEW.out _ _ hb2, rfl⟩
     ·have hty : hexR (s.drop i) = some (v, s.drop s.length) := by rw [HT.out, hT]; dsimp only; rw [if_neg hv]
      have Hty := Lib.hid hty
      have hve : v.isEmpty = false := by cases v <;> simp_all
      clear hty
      go_region_held3 (fun w' => w'.cell? ⟨b, 0, none⟩ = some (.string ⟨s.toArray⟩) ∧ w'.cell? ⟨b, 1, none⟩ = some (.int .i64 s.length)) (first | exact ⟨h0, h1⟩ | exact ⟨hc0', hc1'⟩) (first | (go_at_call 279; refine (Unhex_c _ _ hsl).mono ?_; rintro e w2 ⟨rfl, hb2⟩; rw [hT]; simp only [strOr]; have hR2 := (HRj.out.drewN (nq + 1)).below hb2; have hc0' := hR2.c0; have hc1' := hR2.c1))
      have HR2 := Lib.hid hR2
      clear HRj h0 h1 hR2
      go_wp2_with fail
      go_ret
      rw [HIE.out, Hty.out]
      exact ⟨HEW.out _ _ hb2, rfl, s.length, hj, rfl, HR2.out⟩
end Go.Proofs.YtkkbbhlihilnpaaGreatDoor
