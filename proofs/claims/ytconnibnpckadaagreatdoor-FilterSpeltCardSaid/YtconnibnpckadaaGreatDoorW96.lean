import Derived.Test.YtconnibnpckadaaGreatDoorW95
set_option linter.all false
set_option maxHeartbeats 8000000
set_option maxRecDepth 100000
namespace Go.Proofs.YtconnibnpckadaaGreatDoor
open Go.RowKit
theorem any_all {l : List Fil.FilE} (h : Fil.wgt l ≤ 1048576) : ∀ x ∈ l, x.any.length ≤ 1000000000 := by
 intro x hx
 have h1 : filW x ≤ Fil.wgt l := sum_mem8 _ _ (List.mem_map.2 ⟨x, hx, rfl⟩)
 have := (any_wgt x).1
 omega
theorem sameF_c {l : List Fil.FilE} (hl : Fil.wgt l ≤ 1048576) (v1 v2 : Value) (w : World) (h1 : FilsA w v1 l) (h2 : FilsA w v2 l) :
  Calls Tryz.prog 8 #[v1, v2] w fun e w' => e = .returned (.bool true) ∧ Below w.heap.size w w' := by
 have := SameFilters_c l l v1 v2 w h1 h2 (by have := Fil.wgt_len l; omega) (any_all hl)
 rwa [decide_eq_true rfl] at this
set_option maxRecDepth 100000 in
theorem back_c (f : List Fil.FilE) (s : List UInt8) (vf : Value) (w : World) (hw : Env w) (hf : FilsA w vf f) (hwg : Fil.wgt f ≤ 1048576) (hn : NFit f) :
  Calls Tryz.prog 3 #[vf, .string ⟨s.toArray⟩] w fun e w' => e = .returned (.bool true) ∧ Below w.heap.size w w' := by
 have HAl := Lib.hid (fun (W : World) (hW : Env W) => alive8_c W hW)
 obtain ⟨A, c, rfl, hc⟩ := hf.isSlice
 have hfl := Fil.wgt_len f
 have HB : Hid (Below w.heap.size w w) := Lib.hid (Below.refl _ _)
 have HF := Lib.hid hf
 by_cases h150 : 150 < f.length
 ·have h1 : (f.length : Int) > 150 := by omega
  clear hf
  go_enter Tryz.func3, Tryz.ntmps3
  go_wp2_with (go_at_call 5; (refine (HAl.out _ hw).mono ?_); rintro e w9 ⟨rfl, hb⟩; have HB := Lib.hid (HB.out.trans (hb.mono HB.out.size)))
  go_ret
  exact ⟨rfl, HB.out⟩
 have h1 : ¬ (f.length : Int) > 150 := by omega
 by_cases h9 : 9000 < s.length
 ·have h2 : (s.length : Int) > 9000 := by omega
  clear hf
  go_enter Tryz.func3, Tryz.ntmps3
  go_wp2_with (go_at_call 5; (refine (HAl.out _ hw).mono ?_); rintro e w9 ⟨rfl, hb⟩; have HB := Lib.hid (HB.out.trans (hb.mono HB.out.size)))
  go_ret
  exact ⟨rfl, HB.out⟩
 have h2 : ¬ (s.length : Int) > 9000 := by omega
 obtain ⟨hL1, hL2, hL3⟩ := Fil.back_law f s (by omega)
 have hGw := Fil.parse_wgt s
 have hGn := Fil.parse_fit s (by omega)
 have hPF := fun (W : World) (hW : Below w.heap.size w W) => fPrint_c f _ W (hw.keep hW) (hf.below hW) hwg hn
 have hPS := fun (W : World) (hW : Env W) => fParse_c s W hW
 unfold FParseRet at hPS
 generalize hPf : Fil.printF f = PF at *
 obtain ⟨t, e0⟩ := PF
 generalize hPs : Fil.parseF s = PS at *
 obtain ⟨G, h0⟩ := PS
 simp only at hL1 hL2 hL3 hPF hPS hGw hGn
 have HPF := Lib.hid hPF
 have HPS := Lib.hid hPS
 have HPT : Hid (e0 = 0 → ∀ (W : World), Env W → Calls Tryz.prog 7 #[.string ⟨t.toArray⟩] W fun e w' => Below W.heap.size W w' ∧ ∃ v, e = .returned (.tuple #[v, .int .i64 0]) ∧ FilsA w' v f) := Lib.hid fun he W hW => by
  have := fParse_c t W hW
  rw [hL1 he] at this
  exact this
 have hGw2 : Fil.wgt G ≤ 1048576 := by omega
 have HPG : Hid (∀ (W : World) (v : Value), Env W → FilsA W v G → Calls Tryz.prog 6 #[v] W fun e w' => e = .returned (.tuple #[.string ⟨(Fil.printF G).1.toArray⟩, .int .i64 (Fil.printF G).2]) ∧ Below W.heap.size W w') := Lib.hid fun W v hW hv => fPrint_c G v W hW hv hGw2 hGn
 have HVG : Hid (Fil.validF G = true → ∀ (W : World) (v : Value), Env W → FilsA W v G → Calls Tryz.prog 9 #[v] W fun e w' => e = .returned (.bool true) ∧ Below W.heap.size W w') := Lib.hid fun hv W v hW hf => by
  have := fValid_c G v W hW hf (by omega) hGn
  rwa [hv] at this
 have HSF := Lib.hid (fun (W : World) (v1 : Value) (h1 : FilsA W v1 f) (hW : Below w.heap.size w W) => sameF_c hwg v1 _ W h1 (hf.below hW))
 have HSG := Lib.hid (fun (W : World) (v1 v2 : Value) (h1 : FilsA W v1 G) (h2 : FilsA W v2 G) => sameF_c hGw2 v1 v2 W h1 h2)
 clear hf hPF hPS hn hGn hPf hPs
 have hcase1 : e0 = 0 ∨ (e0 == 0) = false := by
  by_cases h : e0 = 0
  ·exact .inl h
  ·exact .inr (beq_eq_false_iff_ne.2 h)
 by_cases hh : h0 = 0
 ·subst hh
  obtain ⟨hv, hi1, hi2⟩ := hL3 rfl
  generalize hPG2 : Fil.printF G = PG at *
  obtain ⟨u, i0⟩ := PG
  simp only at hi1 hi2 HPG
  have HV := Lib.hid (HVG.out hv)
  by_cases hi : i0 = 0
  ·subst hi
   have HPU : Hid (∀ (W : World), Env W → Calls Tryz.prog 7 #[.string ⟨u.toArray⟩] W fun e w' => Below W.heap.size W w' ∧ ∃ v, e = .returned (.tuple #[v, .int .i64 0]) ∧ FilsA w' v G) := Lib.hid fun W hW => by
    have := fParse_c u W hW
    rw [hi2 rfl] at this
    exact this
   clear hi1 hi2 hL1 hL2 hL3 hv HVG hPG2
   rcases hcase1 with rfl | he
   ·have HPR := Lib.hid (HPT.out rfl)
    clear HPT
    go_enter Tryz.func3, Tryz.ntmps3
    go_wp2_with (first
     | (go_at_call 6; (with_reducible refine (HPF.out _ (by exact HB.out)).mono ?_); rintro e w1 ⟨rfl, hb⟩; have HB := Lib.hid (HB.out.trans (hb.mono HB.out.size)))
     | (go_at_call 7; (with_reducible refine (HPR.out _ (by exact hw.keep HB.out)).mono ?_); rintro e w2 ⟨hb, v2, rfl, hg2⟩; obtain ⟨A2, c2, rfl, _⟩ := hg2.isSlice; have HG2 := Lib.hid hg2; clear hg2; have HB := Lib.hid (HB.out.trans (hb.mono HB.out.size)))
     | (go_at_call 8; (with_reducible refine (HSF.out _ _ (by exact HG2.out) (by exact HB.out)).mono ?_); rintro e w3 ⟨rfl, hb⟩; have HB := Lib.hid (HB.out.trans (hb.mono HB.out.size)))
     | (go_at_call 7; (with_reducible refine (HPS.out _ (by exact hw.keep HB.out)).mono ?_); rintro e w4 ⟨hb, v4, rfl, hg4⟩; obtain ⟨A4, c4, rfl, _⟩ := hg4.isSlice; have HG4 := Lib.hid hg4; clear hg4; have HB := Lib.hid (HB.out.trans (hb.mono HB.out.size)); have HC : Hid (Below w4.heap.size w4 w4) := Lib.hid (Below.refl _ _))
     | (go_at_call 6; (with_reducible refine (HPG.out _ _ (by exact hw.keep HB.out) (by exact HG4.out.below HC.out)).mono ?_); rintro e w5 ⟨rfl, hb⟩; have HB := Lib.hid (HB.out.trans (hb.mono HB.out.size)); have HC := Lib.hid (HC.out.trans (hb.mono HC.out.size)))
     | (go_at_call 7; (with_reducible refine (HPU.out _ (by exact hw.keep HB.out)).mono ?_); rintro e w6 ⟨hb, v6, rfl, hg6⟩; obtain ⟨A6, c6, rfl, _⟩ := hg6.isSlice; have HG6 := Lib.hid hg6; clear hg6; have HB := Lib.hid (HB.out.trans (hb.mono HB.out.size)); have HC := Lib.hid (HC.out.trans (hb.mono HC.out.size)); have HD : Hid (Below w6.heap.size w6 w6) := Lib.hid (Below.refl _ _))
     | (go_at_call 5; (with_reducible refine (HAl.out _ (by exact hw.keep HB.out)).mono ?_); rintro e w9 ⟨rfl, hb⟩; have HB := Lib.hid (HB.out.trans (hb.mono HB.out.size)); have HC := Lib.hid (HC.out.trans (hb.mono HC.out.size)); have HD := Lib.hid (HD.out.trans (hb.mono HD.out.size)))
     | (go_at_call 9; (with_reducible refine (HV.out _ _ (by exact hw.keep HB.out) (by exact HG4.out.below HC.out)).mono ?_); rintro e w7 ⟨rfl, hb⟩; have HB := Lib.hid (HB.out.trans (hb.mono HB.out.size)); have HC := Lib.hid (HC.out.trans (hb.mono HC.out.size)); have HD := Lib.hid (HD.out.trans (hb.mono HD.out.size)))
     | (go_at_call 8; (with_reducible refine (HSG.out _ _ _ (by exact HG6.out.below HD.out) (by exact HG4.out.below HC.out)).mono ?_); rintro e w8 ⟨rfl, hb⟩; have HB := Lib.hid (HB.out.trans (hb.mono HB.out.size)))
     | fail)
    go_ret
    exact ⟨rfl, HB.out⟩
   ·clear HPT
    go_enter Tryz.func3, Tryz.ntmps3
    go_wp2_with (first
     | (go_at_call 6; (with_reducible refine (HPF.out _ (by exact HB.out)).mono ?_); rintro e w1 ⟨rfl, hb⟩; have HB := Lib.hid (HB.out.trans (hb.mono HB.out.size)))
     | (go_at_call 7; (with_reducible refine (HPS.out _ (by exact hw.keep HB.out)).mono ?_); rintro e w4 ⟨hb, v4, rfl, hg4⟩; obtain ⟨A4, c4, rfl, _⟩ := hg4.isSlice; have HG4 := Lib.hid hg4; clear hg4; have HB := Lib.hid (HB.out.trans (hb.mono HB.out.size)); have HC : Hid (Below w4.heap.size w4 w4) := Lib.hid (Below.refl _ _))
     | (go_at_call 6; (with_reducible refine (HPG.out _ _ (by exact hw.keep HB.out) (by exact HG4.out.below HC.out)).mono ?_); rintro e w5 ⟨rfl, hb⟩; have HB := Lib.hid (HB.out.trans (hb.mono HB.out.size)); have HC := Lib.hid (HC.out.trans (hb.mono HC.out.size)))
     | (go_at_call 7; (with_reducible refine (HPU.out _ (by exact hw.keep HB.out)).mono ?_); rintro e w6 ⟨hb, v6, rfl, hg6⟩; obtain ⟨A6, c6, rfl, _⟩ := hg6.isSlice; have HG6 := Lib.hid hg6; clear hg6; have HB := Lib.hid (HB.out.trans (hb.mono HB.out.size)); have HC := Lib.hid (HC.out.trans (hb.mono HC.out.size)); have HD : Hid (Below w6.heap.size w6 w6) := Lib.hid (Below.refl _ _))
     | (go_at_call 5; (with_reducible refine (HAl.out _ (by exact hw.keep HB.out)).mono ?_); rintro e w9 ⟨rfl, hb⟩; have HB := Lib.hid (HB.out.trans (hb.mono HB.out.size)); have HC := Lib.hid (HC.out.trans (hb.mono HC.out.size)); have HD := Lib.hid (HD.out.trans (hb.mono HD.out.size)))
     | (go_at_call 9; (with_reducible refine (HV.out _ _ (by exact hw.keep HB.out) (by exact HG4.out.below HC.out)).mono ?_); rintro e w7 ⟨rfl, hb⟩; have HB := Lib.hid (HB.out.trans (hb.mono HB.out.size)); have HC := Lib.hid (HC.out.trans (hb.mono HC.out.size)); have HD := Lib.hid (HD.out.trans (hb.mono HD.out.size)))
     | (go_at_call 8; (with_reducible refine (HSG.out _ _ _ (by exact HG6.out.below HD.out) (by exact HG4.out.below HC.out)).mono ?_); rintro e w8 ⟨rfl, hb⟩; have HB := Lib.hid (HB.out.trans (hb.mono HB.out.size)))
     | fail)
    go_ret
    exact ⟨rfl, HB.out⟩
  ·have hi3 := hi1 hi
   obtain ⟨rfl, rfl⟩ : u = [] ∧ i0 = 2 := by injection hi3 with a b; exact ⟨a, b⟩
   clear hi1 hi2 hL1 hL2 hL3 hv HVG hPG2 hi hi3
   rcases hcase1 with rfl | he
   ·have HPR := Lib.hid (HPT.out rfl)
    clear HPT
    go_enter Tryz.func3, Tryz.ntmps3
    go_wp2_with (first
     | (go_at_call 6; (with_reducible refine (HPF.out _ (by exact HB.out)).mono ?_); rintro e w1 ⟨rfl, hb⟩; have HB := Lib.hid (HB.out.trans (hb.mono HB.out.size)))
     | (go_at_call 7; (with_reducible refine (HPR.out _ (by exact hw.keep HB.out)).mono ?_); rintro e w2 ⟨hb, v2, rfl, hg2⟩; obtain ⟨A2, c2, rfl, _⟩ := hg2.isSlice; have HG2 := Lib.hid hg2; clear hg2; have HB := Lib.hid (HB.out.trans (hb.mono HB.out.size)))
     | (go_at_call 8; (with_reducible refine (HSF.out _ _ (by exact HG2.out) (by exact HB.out)).mono ?_); rintro e w3 ⟨rfl, hb⟩; have HB := Lib.hid (HB.out.trans (hb.mono HB.out.size)))
     | (go_at_call 7; (with_reducible refine (HPS.out _ (by exact hw.keep HB.out)).mono ?_); rintro e w4 ⟨hb, v4, rfl, hg4⟩; obtain ⟨A4, c4, rfl, _⟩ := hg4.isSlice; have HG4 := Lib.hid hg4; clear hg4; have HB := Lib.hid (HB.out.trans (hb.mono HB.out.size)); have HC : Hid (Below w4.heap.size w4 w4) := Lib.hid (Below.refl _ _))
     | (go_at_call 6; (with_reducible refine (HPG.out _ _ (by exact hw.keep HB.out) (by exact HG4.out.below HC.out)).mono ?_); rintro e w5 ⟨rfl, hb⟩; have HB := Lib.hid (HB.out.trans (hb.mono HB.out.size)); have HC := Lib.hid (HC.out.trans (hb.mono HC.out.size)))
     | (go_at_call 5; (with_reducible refine (HAl.out _ (by exact hw.keep HB.out)).mono ?_); rintro e w9 ⟨rfl, hb⟩; have HB := Lib.hid (HB.out.trans (hb.mono HB.out.size)); have HC := Lib.hid (HC.out.trans (hb.mono HC.out.size)))
     | fail)
    go_ret
    exact ⟨rfl, HB.out⟩
   ·clear HPT
    go_enter Tryz.func3, Tryz.ntmps3
    go_wp2_with (first
     | (go_at_call 6; (with_reducible refine (HPF.out _ (by exact HB.out)).mono ?_); rintro e w1 ⟨rfl, hb⟩; have HB := Lib.hid (HB.out.trans (hb.mono HB.out.size)))
     | (go_at_call 7; (with_reducible refine (HPS.out _ (by exact hw.keep HB.out)).mono ?_); rintro e w4 ⟨hb, v4, rfl, hg4⟩; obtain ⟨A4, c4, rfl, _⟩ := hg4.isSlice; have HG4 := Lib.hid hg4; clear hg4; have HB := Lib.hid (HB.out.trans (hb.mono HB.out.size)); have HC : Hid (Below w4.heap.size w4 w4) := Lib.hid (Below.refl _ _))
     | (go_at_call 6; (with_reducible refine (HPG.out _ _ (by exact hw.keep HB.out) (by exact HG4.out.below HC.out)).mono ?_); rintro e w5 ⟨rfl, hb⟩; have HB := Lib.hid (HB.out.trans (hb.mono HB.out.size)); have HC := Lib.hid (HC.out.trans (hb.mono HC.out.size)))
     | (go_at_call 5; (with_reducible refine (HAl.out _ (by exact hw.keep HB.out)).mono ?_); rintro e w9 ⟨rfl, hb⟩; have HB := Lib.hid (HB.out.trans (hb.mono HB.out.size)); have HC := Lib.hid (HC.out.trans (hb.mono HC.out.size)))
     | fail)
    go_ret
    exact ⟨rfl, HB.out⟩
 ·have h3 := hL2 hh
  obtain ⟨rfl, rfl⟩ : G = [] ∧ h0 = 60 := by injection h3 with a b; exact ⟨a, b⟩
  clear hL1 hL2 hL3 hh h3 HPG HVG HSG
  rcases hcase1 with rfl | he
  ·have HPR := Lib.hid (HPT.out rfl)
   clear HPT
   go_enter Tryz.func3, Tryz.ntmps3
   go_wp2_with (first
    | (go_at_call 6; (with_reducible refine (HPF.out _ (by exact HB.out)).mono ?_); rintro e w1 ⟨rfl, hb⟩; have HB := Lib.hid (HB.out.trans (hb.mono HB.out.size)))
    | (go_at_call 7; (with_reducible refine (HPR.out _ (by exact hw.keep HB.out)).mono ?_); rintro e w2 ⟨hb, v2, rfl, hg2⟩; obtain ⟨A2, c2, rfl, _⟩ := hg2.isSlice; have HG2 := Lib.hid hg2; clear hg2; have HB := Lib.hid (HB.out.trans (hb.mono HB.out.size)))
    | (go_at_call 8; (with_reducible refine (HSF.out _ _ (by exact HG2.out) (by exact HB.out)).mono ?_); rintro e w3 ⟨rfl, hb⟩; have HB := Lib.hid (HB.out.trans (hb.mono HB.out.size)))
    | (go_at_call 7; (with_reducible refine (HPS.out _ (by exact hw.keep HB.out)).mono ?_); rintro e w4 ⟨hb, v4, rfl, hg4⟩; obtain ⟨A4, c4, rfl, _⟩ := hg4.isSlice; have HG4 := Lib.hid hg4; clear hg4; have HB := Lib.hid (HB.out.trans (hb.mono HB.out.size)); have HC : Hid (Below w4.heap.size w4 w4) := Lib.hid (Below.refl _ _))
    | (go_at_call 5; (with_reducible refine (HAl.out _ (by exact hw.keep HB.out)).mono ?_); rintro e w9 ⟨rfl, hb⟩; have HB := Lib.hid (HB.out.trans (hb.mono HB.out.size)); have HC := Lib.hid (HC.out.trans (hb.mono HC.out.size)))
    | fail)
   go_ret
   exact ⟨rfl, HB.out⟩
  ·clear HPT
   go_enter Tryz.func3, Tryz.ntmps3
   go_wp2_with (first
    | (go_at_call 6; (with_reducible refine (HPF.out _ (by exact HB.out)).mono ?_); rintro e w1 ⟨rfl, hb⟩; have HB := Lib.hid (HB.out.trans (hb.mono HB.out.size)))
    | (go_at_call 7; (with_reducible refine (HPS.out _ (by exact hw.keep HB.out)).mono ?_); rintro e w4 ⟨hb, v4, rfl, hg4⟩; obtain ⟨A4, c4, rfl, _⟩ := hg4.isSlice; have HG4 := Lib.hid hg4; clear hg4; have HB := Lib.hid (HB.out.trans (hb.mono HB.out.size)); have HC : Hid (Below w4.heap.size w4 w4) := Lib.hid (Below.refl _ _))
    | (go_at_call 5; (with_reducible refine (HAl.out _ (by exact hw.keep HB.out)).mono ?_); rintro e w9 ⟨rfl, hb⟩; have HB := Lib.hid (HB.out.trans (hb.mono HB.out.size)); have HC := Lib.hid (HC.out.trans (hb.mono HC.out.size)))
    | fail)
   go_ret
   exact ⟨rfl, HB.out⟩
open Go.RowKit
theorem back_u (f : List Fil.FilE) (vf : Value) (s : List UInt8) (W : World) (hw : Env W) (hf : FilsA W vf f) (hn : NFit f) (hb : (f.map filW).sum + s.length ≤ 1048576) :
  Calls Tryz.prog 3 #[vf, .string ⟨s.toArray⟩] W fun e w' => e = .returned (.bool true) ∧ Below W.heap.size W w' :=
 back_c f s vf W hw hf (by unfold Fil.wgt; omega) hn
end Go.Proofs.YtconnibnpckadaaGreatDoor
