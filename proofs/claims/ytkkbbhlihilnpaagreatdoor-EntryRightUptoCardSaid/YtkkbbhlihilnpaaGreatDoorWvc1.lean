import Derived.Test.YtkkbbhlihilnpaaGreatDoorWvb8
set_option linter.all false
set_option maxHeartbeats 8000000
namespace Go.Proofs.YtkkbbhlihilnpaaGreatDoor
open Go.RowKit
structure LJ (w : World) (r : Nat) (sign : List UInt8) (one : List Wd → Option (List UInt8 × List Wd)) (many : Bool) (R : Option (List (List UInt8) × List Wd)) (gk : Nat) (out : Value) (wr : World) (l : List Wd) (acc : List (List UInt8)) : Prop where
 fuel : l.length < gk
 own : Own w.heap.size wr out acc
 rd : RdW wr r l
 mods : Mods [r] w wr
 rest : listF sign one many gk l acc = R
 num : acc.length + l.length ≤ 1000000
 short : Shorts l
theorem LJ.env {w : World} {r : Nat} {sign : List UInt8} {one : List Wd → Option (List UInt8 × List Wd)} {many : Bool} {R : Option (List (List UInt8) × List Wd)} {gk : Nat} {out : Value} {wr : World} {l : List Wd} {acc : List (List UInt8)} (h : LJ w r sign one many R gk out wr l acc) (hw : Env w) (hO : Off r) : Env wr := hw.mods h.mods (by simpa using hO)
theorem Shorts.tail {x : Wd} {l : List Wd} (h : Shorts (x :: l)) : Shorts l := fun y hy => h y (List.mem_cons_of_mem _ hy)
theorem listF_none {sign : List UInt8} {one : List Wd → Option (List UInt8 × List Wd)} {many : Bool} {n : Nat} {l : List Wd} {acc : List (List UInt8)} (h : one l = none) : listF sign one many (n + 1) l acc = none := by
 rw [listF, h]
theorem listF_some {sign : List UInt8} {one : List Wd → Option (List UInt8 × List Wd)} {many : Bool} {n : Nat} {l t : List Wd} {s : List UInt8} {acc : List (List UInt8)} (h : one l = some (s, t)) : listF sign one many (n + 1) l acc = if isTypeL s then
    (if !many then some (acc ++ [s], t)
     else if rIs t [41] then some (acc ++ [s], t.tail)
     else if sign == [] then listF sign one many n t (acc ++ [s])
     else if rIs t sign then listF sign one many n t.tail (acc ++ [s]) else none)
   else none := by
 rw [listF, h]
theorem rIs_cons {l : List Wd} {s : List UInt8} (h : rIs l s = true) : ∃ x, l = x :: l.tail := by
 cases l with
 | nil => cases h
 | cons x t => exact ⟨x, rfl⟩
theorem one_short {one : List Wd → Option (List UInt8 × List Wd)} (hc : ∀ (l t : List Wd) (s : List UInt8), one l = some (s, t) → ∃ q, l = (s, q) :: t) {l : List Wd} (hs : Shorts l) {x : List UInt8 × List Wd} (h : one l = some x) : x.1.length ≤ 1000000 := by
 obtain ⟨q, hq⟩ := hc l x.2 x.1 h
 rw [hq] at hs
 exact hs _ (List.mem_cons_self ..)
theorem take_true (r : Nat) (l : List Wd) (s : List UInt8) (w : World) (h : RdW w r l) (hs : rIs l s = true) :
  Calls Tryz.prog 102 #[.pointer (some ⟨r, 0, none⟩), .string ⟨s.toArray⟩] w (StepRet w r l.tail (.bool true)) := by
 obtain ⟨x, hx⟩ := rIs_cons hs
 rw [hx] at h hs
 exact take_yes r x l.tail s w h hs
set_option maxRecDepth 100000 in
theorem list_c (f : FuncId) (one : List Wd → Option (List UInt8 × List Wd)) (sign : List UInt8) (hsg : sign = [] ∨ sign = [36]) (r : Nat) (l : List Wd) (w : World) (hw : Env w) (hO : Off r) (hone : OneOK f r one) (h : RdW w r l) (hs : Shorts l) (hl : l.length ≤ 1000000) :
  Calls Tryz.prog 155 #[.pointer (some ⟨r, 0, none⟩), .string ⟨sign.toArray⟩, .func (.func f) #[.pointer (some ⟨r, 0, none⟩)] #[]] w (ListRet w r (rList sign one l)) := by
 obtain ⟨R, hR⟩ : ∃ R, rList sign one l = R := ⟨_, rfl⟩
 rw [hR]
 have hrw : r < w.heap.size := by obtain ⟨v, hb, _⟩ := h; exact hb.lt
 have HH := Lib.hid h
 have HS := Lib.hid hs
 unfold rList at hR
 have HR := Lib.hid hR
 clear h hs hR
 have HT0 : Hid (Calls Tryz.prog 102 #[.pointer (some ⟨r, 0, none⟩), .string ⟨#[40]⟩] w fun e w' => e = .returned (.bool (rIs l [40])) ∧ RdW w' r (if rIs l [40] then l.tail else l) ∧ Mods [r] w w') := Lib.hid (by
  cases hm : rIs l [40]
  ·exact (take_no r l [40] w HH.out hm).mono fun e w' ⟨he, hw'⟩ => ⟨he, hw' ▸ HH.out, hw' ▸ Mods.refl _ _⟩
  ·exact (take_true r l [40] w HH.out hm).mono fun e w' ⟨he, h1, h2⟩ => ⟨he, h1, Mods.of_grown h2 (by simp)⟩)
 have HL0 : Hid ((if rIs l [40] then l.tail else l).length ≤ l.length ∧ Shorts (if rIs l [40] then l.tail else l)) := Lib.hid (by
  cases rIs l [40]
  ·exact ⟨Nat.le_refl _, HS.out⟩
  ·exact ⟨by simp, fun x hx => HS.out x (List.mem_of_mem_tail hx)⟩)
 generalize (if rIs l [40] then l.tail else l) = l0 at HT0 HR HL0
 generalize rIs l [40] = many at HT0 HR
 have hent := hone.enter
 clear HS HH
 go_enter Tryz.func155, Tryz.ntmps155
 go_wp2_with (go_at_call 102; refine HT0.out.mono ?_; rintro e w1 ⟨rfl, hr1, hm1⟩)
 go_loopg [9] (l.length + 1) (fun gk out wr => ∃ (l' : List Wd) (acc : List (List UInt8)), Aside (LJ w r sign one many R gk out wr l' acc))
 case atStart =>
  refine ⟨l0, [], ?_⟩
  have hl0 := HL0.out
  exact (⟨by omega, Own.nil hm1.size, hr1, hm1, HR.out, by simp only [List.length_nil]; omega, hl0.2⟩ : LJ w r sign one many R _ _ _ _ _)
 case round =>
  clear HT0 HR HL0
  obtain ⟨l', acc, AJ⟩ := hrel
  obtain ⟨q, rfl⟩ : ∃ q, gk = q + 1 := ⟨gk - 1, by have := AJ.out.fuel; omega⟩
  have H1 := hone.call wr l' (AJ.out.env hw hO) AJ.out.rd AJ.out.short
  obtain ⟨Ao, co, rfl, hco⟩ := AJ.out.own.isSlice
  cases ho : one l' with
  | none =>
   rw [ho] at H1
   have hfin : R = none := by rw [← AJ.out.rest, listF_none ho]
   have Hf := Lib.hid hfin
   clear hfin ho
   have H1' : Hid (Calls Tryz.prog f #[.pointer (some ⟨r, 0, none⟩)] wr fun e w' => ∃ s : List UInt8, e = .returned (.tuple #[.string ⟨s.toArray⟩, .bool false]) ∧ Mods [r] wr w') := Lib.hid H1
   clear H1
   go_wp2_with ((with_reducible refine H1'.out.mono ?_); rintro e w2 ⟨s, rfl, hm2⟩)
   go_ret2
   rw [Hf.out]
   exact ⟨rfl, AJ.out.mods.trans hm2⟩
  | some xx =>
   obtain ⟨s, t⟩ := xx
   rw [ho] at H1
   have H1' : Hid (Calls Tryz.prog f #[.pointer (some ⟨r, 0, none⟩)] wr fun e w' => e = .returned (.tuple #[.string ⟨s.toArray⟩, .bool true]) ∧ RdW w' r t ∧ Mods [r] wr w') := Lib.hid H1
   clear H1
   have hc := hone.cons l' t s ho
   have hstep := listF_some (sign := sign) (many := many) (n := q) (acc := acc) ho
   rw [AJ.out.rest] at hstep
   have HS := Lib.hid hstep
   have hsl := one_short hone.cons AJ.out.short ho
   simp only at hsl
   have hlt : l'.length = t.length + 1 := by obtain ⟨q', hq⟩ := hc; rw [hq]; rfl
   have hst : Shorts t := by have := AJ.out.short; obtain ⟨q', hq⟩ := hc; rw [hq] at this; exact this.tail
   have hfuel := AJ.out.fuel
   have hnum := AJ.out.num
   have HST := Lib.hid hst
   have HT := Lib.hid (fun (W : World) (hm : Mods [r] wr W) => IsType_c s W ((AJ.out.env hw hO).mods hm (by simpa using hO)) (by omega))
   clear hc hstep ho hst
   have HO := Lib.hid (fun (w2 w3 : World) (hm2 : Mods [r] wr w2) (hb3 : Below w2.heap.size w2 w3) => (AJ.out.own.mods hm2 hrw).below hb3)
   have HM := Lib.hid (fun (w2 w3 : World) (hm2 : Mods [r] wr w2) (hb3 : Below w2.heap.size w2 w3) => (AJ.out.mods.trans hm2).trans (Mods.of_below hb3 [r]))
   have H79 : Hid (Mods [r] w wr) := Lib.hid AJ.out.mods
   clear AJ
   cases hT : isTypeL s
   ·rw [hT] at HT HS
    simp only [Bool.false_eq_true, if_false] at HS
    clear hT
    go_wp2_with (first | ((with_reducible refine H1'.out.mono ?_); rintro e w2 ⟨rfl, hr2, hm2⟩) | (go_at_call 81; refine (HT.out _ hm2).mono ?_; rintro e w3 ⟨rfl, hb3⟩))
    go_ret2
    rw [HS.out]
    exact ⟨rfl, HM.out _ _ hm2 hb3⟩
   ·rw [hT] at HT HS
    simp only [if_true] at HS
    clear hT
    cases many
    ·simp only [Bool.not_false, if_true] at HS
     go_wp2_with (first | ((with_reducible refine H1'.out.mono ?_); rintro e w2 ⟨rfl, hr2, hm2⟩) | (go_at_call 81; refine (HT.out _ hm2).mono ?_; rintro e w3 ⟨rfl, hb3⟩; have hO3 := HO.out _ _ hm2 hb3) | (at_builtin; refine own_one (c := s) rfl _ _ rfl rfl hO3 rfl rfl (by omega) ?_; intro v' w4 hO4 hg4))
     go_ret2
     rw [HS.out]
     exact ⟨v', rfl, hO4.texts, (hr2.below hb3).owned hO3 hrw hg4, (HM.out _ _ hm2 hb3).owned hO3 hg4⟩
    ·simp only [Bool.not_true, Bool.false_eq_true, if_false] at HS
     cases h41 : rIs t [41]
     ·rw [h41] at HS
      simp only [Bool.false_eq_true, if_false] at HS
      have H41 := Lib.hid h41
      clear h41
      rcases hsg with rfl | rfl
      ·have hS2 : Hid (R = listF [] one true q t (acc ++ [s])) := Lib.hid HS.out
       clear HS
       go_wp2_with (first | ((with_reducible refine H1'.out.mono ?_); rintro e w2 ⟨rfl, hr2, hm2⟩) | (go_at_call 81; refine (HT.out _ hm2).mono ?_; rintro e w3 ⟨rfl, hb3⟩; have hO3 := HO.out _ _ hm2 hb3) | (at_builtin; refine own_one (c := s) rfl _ _ rfl rfl hO3 rfl rfl (by omega) ?_; intro v' w4 hO4 hg4; have hr4 := (hr2.below hb3).owned hO3 hrw hg4) | (go_at_call 102; (with_reducible refine (take_no r t [41] _ hr4 H41.out).mono ?_); rintro e w5 ⟨rfl, rfl⟩))
       go_roundg q
       case measure => omega
       case rel => exact ⟨t, acc ++ [s], (⟨by omega, hO4, hr4, (HM.out _ _ hm2 hb3).owned hO3 hg4, hS2.out.symm, by simp only [List.length_append, List.length_cons, List.length_nil]; omega, HST.out⟩ : LJ w r [] one true R q v' _ t (acc ++ [s]))⟩
      ·cases h36 : rIs t [36]
       ·have hS2 : Hid (R = none) := Lib.hid (by rw [HS.out, h36]; rfl)
        have H36 := Lib.hid h36
        clear HS h36
        go_wp2_with (first | ((with_reducible refine H1'.out.mono ?_); rintro e w2 ⟨rfl, hr2, hm2⟩) | (go_at_call 81; refine (HT.out _ hm2).mono ?_; rintro e w3 ⟨rfl, hb3⟩; have hO3 := HO.out _ _ hm2 hb3) | (at_builtin; refine own_one (c := s) rfl _ _ rfl rfl hO3 rfl rfl (by omega) ?_; intro v' w4 hO4 hg4; have hr4 := (hr2.below hb3).owned hO3 hrw hg4) | (go_at_call 102; (with_reducible refine (take_no r t [41] _ hr4 H41.out).mono ?_); rintro e w5 ⟨rfl, rfl⟩) | (go_at_call 102; (with_reducible refine (take_no r t [36] _ hr4 H36.out).mono ?_); rintro e w5 ⟨rfl, rfl⟩))
        go_ret2
        rw [hS2.out]
        exact ⟨rfl, (HM.out _ _ hm2 hb3).owned hO3 hg4⟩
       ·have hS2 : Hid (R = listF [36] one true q t.tail (acc ++ [s])) := Lib.hid (by rw [HS.out, h36]; rfl)
        have H36 := Lib.hid h36
        have htl : t.tail.length ≤ t.length := by simp
        clear HS h36
        go_wp2_with (first | ((with_reducible refine H1'.out.mono ?_); rintro e w2 ⟨rfl, hr2, hm2⟩) | (go_at_call 81; refine (HT.out _ hm2).mono ?_; rintro e w3 ⟨rfl, hb3⟩; have hO3 := HO.out _ _ hm2 hb3) | (at_builtin; refine own_one (c := s) rfl _ _ rfl rfl hO3 rfl rfl (by omega) ?_; intro v' w4 hO4 hg4; have hr4 := (hr2.below hb3).owned hO3 hrw hg4) | (go_at_call 102; (with_reducible refine (take_no r t [41] _ hr4 H41.out).mono ?_); rintro e w5 ⟨rfl, rfl⟩) | (go_at_call 102; (with_reducible refine (take_true r t [36] _ hr4 H36.out).mono ?_); rintro e w6 ⟨rfl, hr6, hg6⟩))
        go_roundg q
        case measure => omega
        case rel => exact ⟨t.tail, acc ++ [s], (⟨by omega, hO4.keep hg6 (fun k hk => by cases hk; exact hrw), hr6, ((HM.out _ _ hm2 hb3).owned hO3 hg4).trans (Mods.of_grown hg6 (by simp)), hS2.out.symm, by simp only [List.length_append, List.length_cons, List.length_nil]; omega, fun x hx => HST.out x (List.mem_of_mem_tail hx)⟩ : LJ w r [36] one true R q v' _ t.tail (acc ++ [s]))⟩
     ·rw [h41] at HS
      simp only [if_true] at HS
      have H41 := Lib.hid h41
      clear h41
      go_wp2_with (first | ((with_reducible refine H1'.out.mono ?_); rintro e w2 ⟨rfl, hr2, hm2⟩) | (go_at_call 81; refine (HT.out _ hm2).mono ?_; rintro e w3 ⟨rfl, hb3⟩; have hO3 := HO.out _ _ hm2 hb3) | (at_builtin; refine own_one (c := s) rfl _ _ rfl rfl hO3 rfl rfl (by omega) ?_; intro v' w4 hO4 hg4; have hr4 := (hr2.below hb3).owned hO3 hrw hg4) | (go_at_call 102; (with_reducible refine (take_true r t [41] _ hr4 H41.out).mono ?_); rintro e w6 ⟨rfl, hr6, hg6⟩))
      go_ret2
      rw [HS.out]
      exact ⟨v', rfl, (hO4.keep hg6 (fun k hk => by cases hk; exact hrw)).texts, hr6, ((HM.out _ _ hm2 hb3).owned hO3 hg4).trans (Mods.of_grown hg6 (by simp))⟩
end Go.Proofs.YtkkbbhlihilnpaaGreatDoor
