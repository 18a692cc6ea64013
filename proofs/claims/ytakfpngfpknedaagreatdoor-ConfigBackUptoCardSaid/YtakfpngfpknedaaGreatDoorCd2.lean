/- Chapter 19: configurations compared: config.same. (gen_eq19.py) -/
import Derived.Test.YtakfpngfpknedaaGreatDoorC13
set_option linter.all false
set_option maxHeartbeats 8000000
set_option maxRecDepth 100000
set_option linter.all false
namespace Go.Proofs.YtakfpngfpknedaaGreatDoor
open Go.RowKit
set_option maxRecDepth 100000 in
set_option maxHeartbeats 16000000 in
/-- config.same: the rows. -/
theorem csame_b (c d : Cfg.ConfE) (v1 v2 : Value) (w : World) (h1 : ConfW w v1 c) (h2 : ConfW w v2 d) (hl : Cfg.countE c ≤ 1000000000) (hA : c.suffix = d.suffix ∧ c.root = d.root ∧ c.secret = d.secret ∧ c.size = d.size ∧ c.memberof = d.memberof ∧ c.audit = d.audit) :
    Calls Tryz.prog 35 #[v1, v2] w fun e w' => e = .returned (.bool (decide (c = d))) ∧ Below w.heap.size w w' := by
  obtain ⟨R, hR⟩ : ∃ R, decide (c = d) = R := ⟨_, rfl⟩
  rw [hR]
  obtain ⟨va, vc, vl, vi, vr, vu, rfl, ta, tc, tl, ti, tr, tu⟩ := h1
  obtain ⟨ua, uc, ul, ui, ur, uu, rfl, sa, sc, sl, si, sr, su⟩ := h2
  obtain ⟨x0, x1, x2, x3, x4, x5, x6, x7, x8, x9, x10, x11⟩ := c
  obtain ⟨y0, y1, y2, y3, y4, y5, y6, y7, y8, y9, y10, y11⟩ := d
  unfold confV cCells
  unfold Cfg.countE at hl
  simp only at hl ta tc tl ti tr tu sa sc sl si sr su hA ⊢
  obtain ⟨h0, h1, h2, h3, h8, h9⟩ := hA
  subst h0; subst h1; subst h2; subst h3; subst h8; subst h9
  obtain ⟨P1, hP1⟩ : ∃ P1, P1 = #[.string ⟨x0.toArray⟩, .string ⟨x1.toArray⟩, .string ⟨x2.toArray⟩, .int .i64 x3, va, vc, vl, vi, .bool x8, .bool x9, vr, vu] := ⟨_, rfl⟩
  obtain ⟨P2, hP2⟩ : ∃ P2, P2 = #[.string ⟨x0.toArray⟩, .string ⟨x1.toArray⟩, .string ⟨x2.toArray⟩, .int .i64 x3, ua, uc, ul, ui, .bool x8, .bool x9, ur, uu] := ⟨_, rfl⟩
  rw [← hP1, ← hP2]
  have b1 := bel_c w (.cells P1 25)
  have b2 := b1.alloc b1.size (.cells P2 25)
  have k1 := (Bk.new w 25 P1).alloc (.cells P2 25)
  have k2 := Bk.new (w.alloc (.cells P1 25)) 25 P2
  rw [World.size_alloc] at k2
  have HT4 : Hid (∀ b, decide (x4 = y4) = b → ∀ W : World, Below w.heap.size w W → Calls Tryz.prog 63 #[va, ua] W fun e w' => e = .returned (.bool b) ∧ ∃ m, w' = W.drewN m) := Lib.hid fun b hb W h => by rw [← hb]; exact seqT_q x4 y4 va ua W (ta.below h) (sa.below h) (by omega)
  have HT5 : Hid (∀ b, decide (x5 = y5) = b → ∀ W : World, Below w.heap.size w W → Calls Tryz.prog 63 #[vc, uc] W fun e w' => e = .returned (.bool b) ∧ ∃ m, w' = W.drewN m) := Lib.hid fun b hb W h => by rw [← hb]; exact seqT_q x5 y5 vc uc W (tc.below h) (sc.below h) (by omega)
  have HT6 : Hid (∀ b, decide (x6 = y6) = b → ∀ W : World, Below w.heap.size w W → Calls Tryz.prog 63 #[vl, ul] W fun e w' => e = .returned (.bool b) ∧ ∃ m, w' = W.drewN m) := Lib.hid fun b hb W h => by rw [← hb]; exact seqT_q x6 y6 vl ul W (tl.below h) (sl.below h) (by omega)
  have HT7 : Hid (∀ b, decide (x7 = y7) = b → ∀ W : World, Below w.heap.size w W → Calls Tryz.prog 64 #[vi, ui] W fun e w' => e = .returned (.bool b) ∧ ∃ m, w' = W.drewN m) := Lib.hid fun b hb W h => by rw [← hb]; exact seqI_q x7 y7 vi ui W (ti.below h) (si.below h) (by omega)
  have HT10 : Hid (∀ b, decide (x10 = y10) = b → ∀ W : World, Below w.heap.size w W → Calls Tryz.prog 63 #[vr, ur] W fun e w' => e = .returned (.bool b) ∧ ∃ m, w' = W.drewN m) := Lib.hid fun b hb W h => by rw [← hb]; exact seqT_q x10 y10 vr ur W (tr.below h) (sr.below h) (by omega)
  have HT11 : Hid (∀ b, decide (x11 = y11) = b → ∀ W : World, Below w.heap.size w W → Calls Tryz.prog 63 #[vu, uu] W fun e w' => e = .returned (.bool b) ∧ ∃ m, w' = W.drewN m) := Lib.hid fun b hb W h => by rw [← hb]; exact seqT_q x11 y11 vu uu W (tu.below h) (su.below h) (by omega)
  have HB2 := Lib.hid b2
  have HR := Lib.hid hR
  have p0 := (k1.cell 0).trans (show P1[0]? = some (.string ⟨x0.toArray⟩) by rw [hP1]; rfl)
  have q0 := (k2.cell 0).trans (show P2[0]? = some (.string ⟨x0.toArray⟩) by rw [hP2]; rfl)
  have p1 := (k1.cell 1).trans (show P1[1]? = some (.string ⟨x1.toArray⟩) by rw [hP1]; rfl)
  have q1 := (k2.cell 1).trans (show P2[1]? = some (.string ⟨x1.toArray⟩) by rw [hP2]; rfl)
  have p2 := (k1.cell 2).trans (show P1[2]? = some (.string ⟨x2.toArray⟩) by rw [hP1]; rfl)
  have q2 := (k2.cell 2).trans (show P2[2]? = some (.string ⟨x2.toArray⟩) by rw [hP2]; rfl)
  have p3 := (k1.cell 3).trans (show P1[3]? = some (.int .i64 x3) by rw [hP1]; rfl)
  have q3 := (k2.cell 3).trans (show P2[3]? = some (.int .i64 x3) by rw [hP2]; rfl)
  have p4 := (k1.cell 4).trans (show P1[4]? = some (va) by rw [hP1]; rfl)
  have q4 := (k2.cell 4).trans (show P2[4]? = some (ua) by rw [hP2]; rfl)
  have p5 := (k1.cell 5).trans (show P1[5]? = some (vc) by rw [hP1]; rfl)
  have q5 := (k2.cell 5).trans (show P2[5]? = some (uc) by rw [hP2]; rfl)
  have p6 := (k1.cell 6).trans (show P1[6]? = some (vl) by rw [hP1]; rfl)
  have q6 := (k2.cell 6).trans (show P2[6]? = some (ul) by rw [hP2]; rfl)
  have p7 := (k1.cell 7).trans (show P1[7]? = some (vi) by rw [hP1]; rfl)
  have q7 := (k2.cell 7).trans (show P2[7]? = some (ui) by rw [hP2]; rfl)
  have p8 := (k1.cell 8).trans (show P1[8]? = some (.bool x8) by rw [hP1]; rfl)
  have q8 := (k2.cell 8).trans (show P2[8]? = some (.bool x8) by rw [hP2]; rfl)
  have p9 := (k1.cell 9).trans (show P1[9]? = some (.bool x9) by rw [hP1]; rfl)
  have q9 := (k2.cell 9).trans (show P2[9]? = some (.bool x9) by rw [hP2]; rfl)
  have p10 := (k1.cell 10).trans (show P1[10]? = some (vr) by rw [hP1]; rfl)
  have q10 := (k2.cell 10).trans (show P2[10]? = some (ur) by rw [hP2]; rfl)
  have p11 := (k1.cell 11).trans (show P1[11]? = some (vu) by rw [hP1]; rfl)
  have q11 := (k2.cell 11).trans (show P2[11]? = some (uu) by rw [hP2]; rfl)
  clear hP1 hP2
  clear hR hl b1 b2 k1 k2 ta tc tl tr tu sa sc sl sr su ti si
  go_enter Tryz.func35, Tryz.ntmps35
  by_cases h4 : x4 = y4
  case neg =>
    have hno : R = false := by
      rw [← HR.out, decide_eq_false_iff_not]
      intro e
      exact h4 (Cfg.ConfE.mk.inj e).2.2.2.2.1
    subst hno
    have g4 := Lib.hid (decide_eq_false h4)
    clear h4 p5 q5 p6 q6 p7 q7 p10 q10 p11 q11 HT5 HT6 HT7 HT10 HT11 HR
    go_wp2_with (first
      | (go_at_call 63; (with_reducible refine (HT4.out _ g4.out _ (by first | exact HB2.out | exact below_drewN HB2.out _)).mono ?_); rintro e w5 ⟨rfl, m5, rfl⟩)
      | fail)
    go_ret
    exact ⟨rfl, by first | exact HB2.out | exact below_drewN HB2.out _⟩
  case pos =>
    have g4 := Lib.hid (decide_eq_true h4)
    have e4 := Lib.hid h4
    clear h4
    by_cases h5 : x5 = y5
    case neg =>
      have hno : R = false := by
        rw [← HR.out, decide_eq_false_iff_not]
        intro e
        exact h5 (Cfg.ConfE.mk.inj e).2.2.2.2.2.1
      subst hno
      have g5 := Lib.hid (decide_eq_false h5)
      clear h5 p6 q6 p7 q7 p10 q10 p11 q11 HT6 HT7 HT10 HT11 HR
      go_wp2_with (first
        | (go_at_call 63; (with_reducible refine (HT4.out _ g4.out _ (by first | exact HB2.out | exact below_drewN HB2.out _)).mono ?_); rintro e w5 ⟨rfl, m5, rfl⟩)
        | (go_at_call 63; (with_reducible refine (HT5.out _ g5.out _ (by first | exact HB2.out | exact below_drewN HB2.out _)).mono ?_); rintro e w5 ⟨rfl, m5, rfl⟩)
        | fail)
      go_ret
      exact ⟨rfl, by first | exact HB2.out | exact below_drewN HB2.out _⟩
    case pos =>
      have g5 := Lib.hid (decide_eq_true h5)
      have e5 := Lib.hid h5
      clear h5
      by_cases h6 : x6 = y6
      case neg =>
        have hno : R = false := by
          rw [← HR.out, decide_eq_false_iff_not]
          intro e
          exact h6 (Cfg.ConfE.mk.inj e).2.2.2.2.2.2.1
        subst hno
        have g6 := Lib.hid (decide_eq_false h6)
        clear h6 p7 q7 p10 q10 p11 q11 HT7 HT10 HT11 HR
        go_wp2_with (first
          | (go_at_call 63; (with_reducible refine (HT4.out _ g4.out _ (by first | exact HB2.out | exact below_drewN HB2.out _)).mono ?_); rintro e w5 ⟨rfl, m5, rfl⟩)
          | (go_at_call 63; (with_reducible refine (HT5.out _ g5.out _ (by first | exact HB2.out | exact below_drewN HB2.out _)).mono ?_); rintro e w5 ⟨rfl, m5, rfl⟩)
          | (go_at_call 63; (with_reducible refine (HT6.out _ g6.out _ (by first | exact HB2.out | exact below_drewN HB2.out _)).mono ?_); rintro e w5 ⟨rfl, m5, rfl⟩)
          | fail)
        go_ret
        exact ⟨rfl, by first | exact HB2.out | exact below_drewN HB2.out _⟩
      case pos =>
        have g6 := Lib.hid (decide_eq_true h6)
        have e6 := Lib.hid h6
        clear h6
        by_cases h7 : x7 = y7
        case neg =>
          have hno : R = false := by
            rw [← HR.out, decide_eq_false_iff_not]
            intro e
            exact h7 (Cfg.ConfE.mk.inj e).2.2.2.2.2.2.2.1
          subst hno
          have g7 := Lib.hid (decide_eq_false h7)
          clear h7 p10 q10 p11 q11 HT10 HT11 HR
          go_wp2_with (first
            | (go_at_call 63; (with_reducible refine (HT4.out _ g4.out _ (by first | exact HB2.out | exact below_drewN HB2.out _)).mono ?_); rintro e w5 ⟨rfl, m5, rfl⟩)
            | (go_at_call 63; (with_reducible refine (HT5.out _ g5.out _ (by first | exact HB2.out | exact below_drewN HB2.out _)).mono ?_); rintro e w5 ⟨rfl, m5, rfl⟩)
            | (go_at_call 63; (with_reducible refine (HT6.out _ g6.out _ (by first | exact HB2.out | exact below_drewN HB2.out _)).mono ?_); rintro e w5 ⟨rfl, m5, rfl⟩)
            | (go_at_call 64; (with_reducible refine (HT7.out _ g7.out _ (by first | exact HB2.out | exact below_drewN HB2.out _)).mono ?_); rintro e w5 ⟨rfl, m5, rfl⟩)
            | fail)
          go_ret
          exact ⟨rfl, by first | exact HB2.out | exact below_drewN HB2.out _⟩
        case pos =>
          have g7 := Lib.hid (decide_eq_true h7)
          have e7 := Lib.hid h7
          clear h7
          by_cases h10 : x10 = y10
          case neg =>
            have hno : R = false := by
              rw [← HR.out, decide_eq_false_iff_not]
              intro e
              exact h10 (Cfg.ConfE.mk.inj e).2.2.2.2.2.2.2.2.2.2.1
            subst hno
            have g10 := Lib.hid (decide_eq_false h10)
            clear h10 p11 q11 HT11 HR
            go_wp2_with (first
              | (go_at_call 63; (with_reducible refine (HT4.out _ g4.out _ (by first | exact HB2.out | exact below_drewN HB2.out _)).mono ?_); rintro e w5 ⟨rfl, m5, rfl⟩)
              | (go_at_call 63; (with_reducible refine (HT5.out _ g5.out _ (by first | exact HB2.out | exact below_drewN HB2.out _)).mono ?_); rintro e w5 ⟨rfl, m5, rfl⟩)
              | (go_at_call 63; (with_reducible refine (HT6.out _ g6.out _ (by first | exact HB2.out | exact below_drewN HB2.out _)).mono ?_); rintro e w5 ⟨rfl, m5, rfl⟩)
              | (go_at_call 64; (with_reducible refine (HT7.out _ g7.out _ (by first | exact HB2.out | exact below_drewN HB2.out _)).mono ?_); rintro e w5 ⟨rfl, m5, rfl⟩)
              | (go_at_call 63; (with_reducible refine (HT10.out _ g10.out _ (by first | exact HB2.out | exact below_drewN HB2.out _)).mono ?_); rintro e w5 ⟨rfl, m5, rfl⟩)
              | fail)
            go_ret
            exact ⟨rfl, by first | exact HB2.out | exact below_drewN HB2.out _⟩
          case pos =>
            have g10 := Lib.hid (decide_eq_true h10)
            have e10 := Lib.hid h10
            clear h10
            by_cases h11 : x11 = y11
            case neg =>
              have hno : R = false := by
                rw [← HR.out, decide_eq_false_iff_not]
                intro e
                exact h11 (Cfg.ConfE.mk.inj e).2.2.2.2.2.2.2.2.2.2.2
              subst hno
              have g11 := Lib.hid (decide_eq_false h11)
              clear h11 HR
              go_wp2_with (first
                | (go_at_call 63; (with_reducible refine (HT4.out _ g4.out _ (by first | exact HB2.out | exact below_drewN HB2.out _)).mono ?_); rintro e w5 ⟨rfl, m5, rfl⟩)
                | (go_at_call 63; (with_reducible refine (HT5.out _ g5.out _ (by first | exact HB2.out | exact below_drewN HB2.out _)).mono ?_); rintro e w5 ⟨rfl, m5, rfl⟩)
                | (go_at_call 63; (with_reducible refine (HT6.out _ g6.out _ (by first | exact HB2.out | exact below_drewN HB2.out _)).mono ?_); rintro e w5 ⟨rfl, m5, rfl⟩)
                | (go_at_call 64; (with_reducible refine (HT7.out _ g7.out _ (by first | exact HB2.out | exact below_drewN HB2.out _)).mono ?_); rintro e w5 ⟨rfl, m5, rfl⟩)
                | (go_at_call 63; (with_reducible refine (HT10.out _ g10.out _ (by first | exact HB2.out | exact below_drewN HB2.out _)).mono ?_); rintro e w5 ⟨rfl, m5, rfl⟩)
                | (go_at_call 63; (with_reducible refine (HT11.out _ g11.out _ (by first | exact HB2.out | exact below_drewN HB2.out _)).mono ?_); rintro e w5 ⟨rfl, m5, rfl⟩)
                | fail)
              go_ret
              exact ⟨rfl, by first | exact HB2.out | exact below_drewN HB2.out _⟩
            case pos =>
              have g11 := Lib.hid (decide_eq_true h11)
              have e11 := Lib.hid h11
              clear h11
              have hyes : R = true := by
                rw [← HR.out, decide_eq_true_iff]
                rw [e4.out, e5.out, e6.out, e7.out, e10.out, e11.out]
              subst hyes
              go_wp2_with (first
                | (go_at_call 63; (with_reducible refine (HT4.out _ g4.out _ (by first | exact HB2.out | exact below_drewN HB2.out _)).mono ?_); rintro e w5 ⟨rfl, m5, rfl⟩)
                | (go_at_call 63; (with_reducible refine (HT5.out _ g5.out _ (by first | exact HB2.out | exact below_drewN HB2.out _)).mono ?_); rintro e w5 ⟨rfl, m5, rfl⟩)
                | (go_at_call 63; (with_reducible refine (HT6.out _ g6.out _ (by first | exact HB2.out | exact below_drewN HB2.out _)).mono ?_); rintro e w5 ⟨rfl, m5, rfl⟩)
                | (go_at_call 64; (with_reducible refine (HT7.out _ g7.out _ (by first | exact HB2.out | exact below_drewN HB2.out _)).mono ?_); rintro e w5 ⟨rfl, m5, rfl⟩)
                | (go_at_call 63; (with_reducible refine (HT10.out _ g10.out _ (by first | exact HB2.out | exact below_drewN HB2.out _)).mono ?_); rintro e w5 ⟨rfl, m5, rfl⟩)
                | (go_at_call 63; (with_reducible refine (HT11.out _ g11.out _ (by first | exact HB2.out | exact below_drewN HB2.out _)).mono ?_); rintro e w5 ⟨rfl, m5, rfl⟩)
                | fail)
              go_ret
              exact ⟨rfl, by first | exact HB2.out | exact below_drewN HB2.out _⟩
end Go.Proofs.YtakfpngfpknedaaGreatDoor
