/- Chapter 19: configurations compared: config.same. (gen_eq19.py) -/
import Derived.Test.YtakfpngfpknedaaGreatDoorC13
set_option linter.all false
set_option maxHeartbeats 8000000
set_option maxRecDepth 100000
set_option linter.all false
namespace Go.Proofs.YtakfpngfpknedaaGreatDoor
open Go.RowKit
set_option maxRecDepth 100000 in
set_option maxHeartbeats 16000000 in
/-- config.same: the texts, the number and the switches. -/
theorem csame_a (c d : Cfg.ConfE) (v1 v2 : Value) (w : World) (h1 : ConfW w v1 c) (h2 : ConfW w v2 d) (hl : Cfg.countE c ≤ 1000000000) (hA : ¬ (c.suffix = d.suffix ∧ c.root = d.root ∧ c.secret = d.secret ∧ c.size = d.size ∧ c.memberof = d.memberof ∧ c.audit = d.audit)) :
    Calls Tryz.prog 35 #[v1, v2] w fun e w' => e = .returned (.bool (decide (c = d))) ∧ Below w.heap.size w w' := by
  obtain ⟨R, hR⟩ : ∃ R, decide (c = d) = R := ⟨_, rfl⟩
  rw [hR]
  obtain ⟨va, vc, vl, vi, vr, vu, rfl, ta, tc, tl, ti, tr, tu⟩ := h1
  obtain ⟨ua, uc, ul, ui, ur, uu, rfl, sa, sc, sl, si, sr, su⟩ := h2
  obtain ⟨x0, x1, x2, x3, x4, x5, x6, x7, x8, x9, x10, x11⟩ := c
  obtain ⟨y0, y1, y2, y3, y4, y5, y6, y7, y8, y9, y10, y11⟩ := d
  unfold confV cCells
  unfold Cfg.countE at hl
  simp only at hl ta tc tl ti tr tu sa sc sl si sr su hA ⊢
  obtain ⟨P1, hP1⟩ : ∃ P1, P1 = #[.string ⟨x0.toArray⟩, .string ⟨x1.toArray⟩, .string ⟨x2.toArray⟩, .int .i64 x3, va, vc, vl, vi, .bool x8, .bool x9, vr, vu] := ⟨_, rfl⟩
  obtain ⟨P2, hP2⟩ : ∃ P2, P2 = #[.string ⟨y0.toArray⟩, .string ⟨y1.toArray⟩, .string ⟨y2.toArray⟩, .int .i64 y3, ua, uc, ul, ui, .bool y8, .bool y9, ur, uu] := ⟨_, rfl⟩
  rw [← hP1, ← hP2]
  have b1 := bel_c w (.cells P1 25)
  have b2 := b1.alloc b1.size (.cells P2 25)
  have k1 := (Bk.new w 25 P1).alloc (.cells P2 25)
  have k2 := Bk.new (w.alloc (.cells P1 25)) 25 P2
  rw [World.size_alloc] at k2
  have HT4 : Hid (∀ b, decide (x4 = y4) = b → ∀ W : World, Below w.heap.size w W → Calls Tryz.prog 63 #[va, ua] W fun e w' => e = .returned (.bool b) ∧ ∃ m, w' = W.drewN m) := Lib.hid fun b hb W h => by rw [← hb]; exact seqT_q x4 y4 va ua W (ta.below h) (sa.below h) (by omega)
  have HT5 : Hid (∀ b, decide (x5 = y5) = b → ∀ W : World, Below w.heap.size w W → Calls Tryz.prog 63 #[vc, uc] W fun e w' => e = .returned (.bool b) ∧ ∃ m, w' = W.drewN m) := Lib.hid fun b hb W h => by rw [← hb]; exact seqT_q x5 y5 vc uc W (tc.below h) (sc.below h) (by omega)
  have HT6 : Hid (∀ b, decide (x6 = y6) = b → ∀ W : World, Below w.heap.size w W → Calls Tryz.prog 63 #[vl, ul] W fun e w' => e = .returned (.bool b) ∧ ∃ m, w' = W.drewN m) := Lib.hid fun b hb W h => by rw [← hb]; exact seqT_q x6 y6 vl ul W (tl.below h) (sl.below h) (by omega)
  have HT7 : Hid (∀ b, decide (x7 = y7) = b → ∀ W : World, Below w.heap.size w W → Calls Tryz.prog 64 #[vi, ui] W fun e w' => e = .returned (.bool b) ∧ ∃ m, w' = W.drewN m) := Lib.hid fun b hb W h => by rw [← hb]; exact seqI_q x7 y7 vi ui W (ti.below h) (si.below h) (by omega)
  have HT10 : Hid (∀ b, decide (x10 = y10) = b → ∀ W : World, Below w.heap.size w W → Calls Tryz.prog 63 #[vr, ur] W fun e w' => e = .returned (.bool b) ∧ ∃ m, w' = W.drewN m) := Lib.hid fun b hb W h => by rw [← hb]; exact seqT_q x10 y10 vr ur W (tr.below h) (sr.below h) (by omega)
  have HT11 : Hid (∀ b, decide (x11 = y11) = b → ∀ W : World, Below w.heap.size w W → Calls Tryz.prog 63 #[vu, uu] W fun e w' => e = .returned (.bool b) ∧ ∃ m, w' = W.drewN m) := Lib.hid fun b hb W h => by rw [← hb]; exact seqT_q x11 y11 vu uu W (tu.below h) (su.below h) (by omega)
  have HB2 := Lib.hid b2
  have HR := Lib.hid hR
  have p0 := (k1.cell 0).trans (show P1[0]? = some (.string ⟨x0.toArray⟩) by rw [hP1]; rfl)
  have q0 := (k2.cell 0).trans (show P2[0]? = some (.string ⟨y0.toArray⟩) by rw [hP2]; rfl)
  have p1 := (k1.cell 1).trans (show P1[1]? = some (.string ⟨x1.toArray⟩) by rw [hP1]; rfl)
  have q1 := (k2.cell 1).trans (show P2[1]? = some (.string ⟨y1.toArray⟩) by rw [hP2]; rfl)
  have p2 := (k1.cell 2).trans (show P1[2]? = some (.string ⟨x2.toArray⟩) by rw [hP1]; rfl)
  have q2 := (k2.cell 2).trans (show P2[2]? = some (.string ⟨y2.toArray⟩) by rw [hP2]; rfl)
  have p3 := (k1.cell 3).trans (show P1[3]? = some (.int .i64 x3) by rw [hP1]; rfl)
  have q3 := (k2.cell 3).trans (show P2[3]? = some (.int .i64 y3) by rw [hP2]; rfl)
  have p4 := (k1.cell 4).trans (show P1[4]? = some (va) by rw [hP1]; rfl)
  have q4 := (k2.cell 4).trans (show P2[4]? = some (ua) by rw [hP2]; rfl)
  have p5 := (k1.cell 5).trans (show P1[5]? = some (vc) by rw [hP1]; rfl)
  have q5 := (k2.cell 5).trans (show P2[5]? = some (uc) by rw [hP2]; rfl)
  have p6 := (k1.cell 6).trans (show P1[6]? = some (vl) by rw [hP1]; rfl)
  have q6 := (k2.cell 6).trans (show P2[6]? = some (ul) by rw [hP2]; rfl)
  have p7 := (k1.cell 7).trans (show P1[7]? = some (vi) by rw [hP1]; rfl)
  have q7 := (k2.cell 7).trans (show P2[7]? = some (ui) by rw [hP2]; rfl)
  have p8 := (k1.cell 8).trans (show P1[8]? = some (.bool x8) by rw [hP1]; rfl)
  have q8 := (k2.cell 8).trans (show P2[8]? = some (.bool y8) by rw [hP2]; rfl)
  have p9 := (k1.cell 9).trans (show P1[9]? = some (.bool x9) by rw [hP1]; rfl)
  have q9 := (k2.cell 9).trans (show P2[9]? = some (.bool y9) by rw [hP2]; rfl)
  have p10 := (k1.cell 10).trans (show P1[10]? = some (vr) by rw [hP1]; rfl)
  have q10 := (k2.cell 10).trans (show P2[10]? = some (ur) by rw [hP2]; rfl)
  have p11 := (k1.cell 11).trans (show P1[11]? = some (vu) by rw [hP1]; rfl)
  have q11 := (k2.cell 11).trans (show P2[11]? = some (uu) by rw [hP2]; rfl)
  clear hP1 hP2
  clear hR hl b1 b2 k1 k2 ta tc tl tr tu sa sc sl sr su ti si
  go_enter Tryz.func35, Tryz.ntmps35
  by_cases h0 : x0 = y0
  case neg =>
    have hno : R = false := by
      rw [← HR.out, decide_eq_false_iff_not]
      intro e
      exact h0 (Cfg.ConfE.mk.inj e).1
    subst hno
    have hb0 := beq_eq_false_iff_ne.2 h0
    clear h0 p1 q1 p2 q2 p3 q3 p8 q8 p9 q9 p4 q4 p5 q5 p6 q6 p7 q7 p10 q10 p11 q11 HT4 HT5 HT6 HT7 HT10 HT11 HR
    go_wp2_with fail
    go_ret
    exact ⟨rfl, by first | exact HB2.out | exact below_drewN HB2.out _⟩
  case pos =>
    subst h0
    by_cases h1 : x1 = y1
    case neg =>
      have hno : R = false := by
        rw [← HR.out, decide_eq_false_iff_not]
        intro e
        exact h1 (Cfg.ConfE.mk.inj e).2.1
      subst hno
      have hb1 := beq_eq_false_iff_ne.2 h1
      clear h1 p2 q2 p3 q3 p8 q8 p9 q9 p4 q4 p5 q5 p6 q6 p7 q7 p10 q10 p11 q11 HT4 HT5 HT6 HT7 HT10 HT11 HR
      go_wp2_with fail
      go_ret
      exact ⟨rfl, by first | exact HB2.out | exact below_drewN HB2.out _⟩
    case pos =>
      subst h1
      by_cases h2 : x2 = y2
      case neg =>
        have hno : R = false := by
          rw [← HR.out, decide_eq_false_iff_not]
          intro e
          exact h2 (Cfg.ConfE.mk.inj e).2.2.1
        subst hno
        have hb2 := beq_eq_false_iff_ne.2 h2
        clear h2 p3 q3 p8 q8 p9 q9 p4 q4 p5 q5 p6 q6 p7 q7 p10 q10 p11 q11 HT4 HT5 HT6 HT7 HT10 HT11 HR
        go_wp2_with fail
        go_ret
        exact ⟨rfl, by first | exact HB2.out | exact below_drewN HB2.out _⟩
      case pos =>
        subst h2
        by_cases h3 : x3 = y3
        case neg =>
          have hno : R = false := by
            rw [← HR.out, decide_eq_false_iff_not]
            intro e
            exact h3 (Cfg.ConfE.mk.inj e).2.2.2.1
          subst hno
          have hb3 := beq_eq_false_iff_ne.2 h3
          clear h3 p8 q8 p9 q9 p4 q4 p5 q5 p6 q6 p7 q7 p10 q10 p11 q11 HT4 HT5 HT6 HT7 HT10 HT11 HR
          go_wp2_with fail
          go_ret
          exact ⟨rfl, by first | exact HB2.out | exact below_drewN HB2.out _⟩
        case pos =>
          subst h3
          by_cases h8 : x8 = y8
          case neg =>
            have hno : R = false := by
              rw [← HR.out, decide_eq_false_iff_not]
              intro e
              exact h8 (Cfg.ConfE.mk.inj e).2.2.2.2.2.2.2.2.1
            subst hno
            have hb8 := beq_eq_false_iff_ne.2 h8
            clear h8 p9 q9 p4 q4 p5 q5 p6 q6 p7 q7 p10 q10 p11 q11 HT4 HT5 HT6 HT7 HT10 HT11 HR
            go_wp2_with fail
            go_ret
            exact ⟨rfl, by first | exact HB2.out | exact below_drewN HB2.out _⟩
          case pos =>
            subst h8
            by_cases h9 : x9 = y9
            case neg =>
              have hno : R = false := by
                rw [← HR.out, decide_eq_false_iff_not]
                intro e
                exact h9 (Cfg.ConfE.mk.inj e).2.2.2.2.2.2.2.2.2.1
              subst hno
              have hb9 := beq_eq_false_iff_ne.2 h9
              clear h9 p4 q4 p5 q5 p6 q6 p7 q7 p10 q10 p11 q11 HT4 HT5 HT6 HT7 HT10 HT11 HR
              go_wp2_with fail
              go_ret
              exact ⟨rfl, by first | exact HB2.out | exact below_drewN HB2.out _⟩
            case pos =>
              subst h9
              exact absurd ⟨rfl, rfl, rfl, rfl, rfl, rfl⟩ hA
end Go.Proofs.YtakfpngfpknedaaGreatDoor
