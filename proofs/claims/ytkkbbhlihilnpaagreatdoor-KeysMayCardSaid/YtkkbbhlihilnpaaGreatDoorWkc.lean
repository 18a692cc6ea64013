import Derived.Test.YtkkbbhlihilnpaaGreatDoorWkb
set_option linter.all false
set_option maxHeartbeats 8000000
set_option maxRecDepth 100000
namespace Go.Proofs.YtkkbbhlihilnpaaGreatDoor
open Go.RowKit
theorem slice_upP (a : Addr) (n c k : Nat) (hk : k ≤ c) (w : World) :
  (Instr.slice 22 (.slice (some a) n c) none (some (.int .i64 (k : Int))) none).run Tryz.prog w = .ok (.slice (some a) k c) w := by
 have h1 : (Instr.sliceBounds true n c none (some (.int .i64 k)) none).run Tryz.prog w = .ok (0, k, c) w := by
  simp [Instr.sliceBounds, run_sliceBound, hk]
 unfold Instr.slice
 simp only [Sem.run_bind, run_underlying Tryz.underlying22, Result.andThen_ok, h1, size_plan, Sem.run_pure]
 simp [add_none]
theorem OwnPl.bel {B : Nat} {W w w' : World} {v : Value} {l : List Key.PlanE} (hb : Below B W w) (hO : OwnPl B w v l) (hg : w.grownBy w' v.ownBlock) : Below B W w' := hb.grown hg hO.2 (fun k hk => (hO.lt k hk).1)
theorem plan_new (w : World) (o : Int) : PlanS (w.alloc (.cells #[.int .i64 o, .int .i64 0, .string ⟨#[]⟩] 26)) (.slice (some ⟨w.heap.size, 0, none⟩) 1 1) [⟨o, 0, []⟩] := by
 have hk := Bk.new w 26 #[.int .i64 o, .int .i64 0, .string ⟨#[]⟩]
 refine ⟨_, 1, rfl, Nat.le_refl _, fun j hj => ?_⟩
 have h0 : j = 0 := by simpa using hj
 subst h0
 exact ⟨_, 0, rfl, hk.cell 0, hk.cell 1, hk.cell 2⟩
set_option maxRecDepth 100000 in
theorem keysLaw_c (p : List Key.PlanE) (v : Value) (xs : List (List UInt8)) (vh : Value) (w : World) (hw : Env w) (hp : PlanS w v p) (hz : ∀ c, v = .slice none 0 c → c = 0) (hx : TextsA w vh xs) :
  Calls Tryz.prog 3 #[v, vh] w fun e w' => e = .returned (.bool true) ∧ Below w.heap.size w w' := by
 have HA := Lib.hid (fun W (h : Below w.heap.size w W) => alive14_c W (hw.keep h))
 have HP := Lib.hid hp
 have HX := Lib.hid hx
 have HZ := Lib.hid hz
 obtain ⟨A, c, rfl, hc⟩ := hp.isSlice
 obtain ⟨Ah, ch, rfl, hch, _⟩ := hx.at
 clear hp hx hw hz
 by_cases h1 : p.length ≤ 200
 ·by_cases h2 : xs.length ≤ 200
  ·have hno := OwnPl.nil (B := w.heap.size) (w := w) (Nat.le_refl _)
   have hv1 : ¬ ((200 : Int) < (p.length : Int)) := by omega
   have hv2 : ¬ ((200 : Int) < (xs.length : Int)) := by omega
   go_enter Tryz.func3, Tryz.ntmps3
   go_wp2_with (first
    | (at_builtin; refine plan_more rfl _ _ rfl rfl hno rfl HP.out HZ.out (by simp; omega) ?_; intro v1 w1 hO1 hg1; rw [List.nil_append] at hO1; have hB1 := OwnPl.bel (Below.refl _ _) hno hg1; have hba := bel_one w1 (.cells #[.int .i64 (-77), .int .i64 0, .string ⟨#[]⟩] 26); have hO1a := hO1.below hba; have hB1a := hB1.trans (hba.mono hB1.size); have hN := plan_new w1 (-77))
    | (at_builtin; refine plan_more rfl _ _ rfl rfl hO1a rfl hN (fun c h => by cases h) (by simp; omega) ?_; intro v2 w2 hO2 hg2; have hB2 := OwnPl.bel hB1a hO1a hg2; obtain ⟨b, c2, rfl, hc2, hPL, hmk⟩ := plan_lent hO2; have hs1 := fun W => slice_upP ⟨b, 0, none⟩ (p.length + 1) c2 p.length (by omega) W)
    | (go_at_call 9; (with_reducible refine (lentTexts_c xs _ w2 (HX.out.below hB2) (by omega)).mono ?_); rintro e w3 ⟨am, cm, rfl, hcm, hm1, hm2, hb3⟩; have hB3 := hB2.trans (hb3.mono hB2.size); have hPL3 := hPL.below hb3; have hk3 := (hb3.cell (cell_lt hmk)).trans hmk)
    | (go_at_call 8; (with_reducible refine (HA.out _ hB3).mono ?_); rintro e w4 ⟨rfl, hb4⟩; have hB4 := hB3.trans (hb4.mono hB3.size); have hPL4 := hPL3.below hb4; have hk4 := (hb4.cell (cell_lt hk3)).trans hk3; have hm14 := hm1.below hb4; have hm24 := hm2.below hb4)
    | (go_at_call 10; (with_reducible refine (valid14_c p _ w4 (by omega) hPL4).mono ?_); rintro e w5 ⟨rfl, hb5⟩; have hB5 := hB4.trans (hb5.mono hB4.size); have hPL5 := hPL4.below hb5; have hk5 := (hb5.cell (cell_lt hk4)).trans hk4; have hm15 := hm14.below hb5; have hm25 := hm24.below hb5)
    | (go_at_call 11; (with_reducible refine (rValid14_c p _ w5 (by omega) (HP.out.below hB5)).mono ?_); rintro e w6 ⟨rfl, hb6⟩; have hB6 := hB5.trans (hb6.mono hB5.size); have hPL6 := hPL5.below hb6; have hk6 := (hb6.cell (cell_lt hk5)).trans hk5; have hm16 := hm15.below hb6; have hm26 := hm25.below hb6)
    | (go_at_call 12; (with_reducible refine (mayKeys_c p xs _ _ w6 hPL6 (by omega) hm26 (by omega)).mono ?_); rintro e w7 ⟨rfl, hb7⟩; have hB7 := hB6.trans (hb7.mono hB6.size); have hPL7 := hPL6.below hb7; have hk7 := (hb7.cell (cell_lt hk6)).trans hk6; have hm17 := hm16.below hb7; have hm27 := hm26.below hb7)
    | (go_at_call 13; (with_reducible refine (rMayKeys_c p xs _ _ w7 (HP.out.below hB7) (by omega) (HX.out.below hB7) (by omega)).mono ?_); rintro e w8 ⟨rfl, hb8⟩; have hB8 := hB7.trans (hb8.mono hB7.size); have hPL8 := hPL7.below hb8; have hk8 := (hb8.cell (cell_lt hk7)).trans hk7; have hm18 := hm17.below hb8; have hm28 := hm27.below hb8)
    | (go_at_call 14; (with_reducible refine (same14_c p _ _ w8 hPL8 (HP.out.below hB8) (by omega)).mono ?_); rintro e w9 ⟨rfl, hb9⟩; have hB9 := hB8.trans (hb9.mono hB8.size); have hk9 := (hb9.cell (cell_lt hk8)).trans hk8; have hm19 := hm18.below hb9; have hm29 := hm28.below hb9; have hs2 := fun W => slice_upP ⟨b, 0, none⟩ p.length c2 (p.length + 1) (by omega) W; rw [show ((p.length + 1 : Nat) : Int) = (p.length : Int) + 1 from rfl] at hs2; have hst := staysTexts_c xs (some am) cm _ w9 hcm hm19 (HX.out.below hB9) hm29 (by omega))
    | (go_at_call 15; (with_reducible refine hst.mono ?_); rintro e w10 ⟨rfl, hb10⟩; have hB10 := hB9.trans (hb10.mono hB9.size)))
   all_goals
    go_ret
    exact ⟨retb (by simp), hB10⟩
  ·go_enter Tryz.func3, Tryz.ntmps3
   go_wp2_with (go_at_call 8; (with_reducible refine (HA.out _ (Below.refl _ _)).mono ?_); rintro e w4 ⟨rfl, hb4⟩)
   all_goals
    go_ret
    exact ⟨rfl, hb4⟩
 ·go_enter Tryz.func3, Tryz.ntmps3
  go_wp2_with (go_at_call 8; (with_reducible refine (HA.out _ (Below.refl _ _)).mono ?_); rintro e w4 ⟨rfl, hb4⟩)
  all_goals
   go_ret
   exact ⟨rfl, hb4⟩
end Go.Proofs.YtkkbbhlihilnpaaGreatDoor
