import Derived.Test.YtconnibnpckadaaGreatDoorW82
import Derived.RegionTactic
import Derived.ChangeAlike
import Derived.BigRegion
import Derived.Deep.RegionLaw
import Derived.Deep.MidRow
set_option linter.all false
set_option maxHeartbeats 8000000
set_option maxRecDepth 100000
namespace Go.Proofs.YtconnibnpckadaaGreatDoor
open Go.RowKit
set_option maxRecDepth 100000 in
theorem fSame_c (a b : Fil.FilE) (va vb : Value) (w : World) (ha : TextsA w va a.any) (hb : TextsA w vb b.any) (hl : a.any.length ≤ 1000000000) :
  Calls Tryz.prog 66 #[filV a va, filV b vb] w fun e w' => e = .returned (.bool (decide (a = b))) ∧ Below w.heap.size w w' := by
 obtain ⟨o1, m1, t1, u1, i1, f1, y1⟩ := a
 obtain ⟨o2, m2, t2, u2, i2, f2, y2⟩ := b
 simp only at ha hb hl
 unfold filV
 simp only
 have hb1 := bel_f1 w (.cells #[.int .i64 o1, .int .i64 m1, .string ⟨t1.toArray⟩, .string ⟨u1.toArray⟩, .string ⟨i1.toArray⟩, .string ⟨f1.toArray⟩, va] 34)
 have hk1 := Bk.new w 34 #[.int .i64 o1, .int .i64 m1, .string ⟨t1.toArray⟩, .string ⟨u1.toArray⟩, .string ⟨i1.toArray⟩, .string ⟨f1.toArray⟩, va]
 obtain ⟨W1, hW1⟩ : ∃ W1, W1 = w.alloc (.cells #[.int .i64 o1, .int .i64 m1, .string ⟨t1.toArray⟩, .string ⟨u1.toArray⟩, .string ⟨i1.toArray⟩, .string ⟨f1.toArray⟩, va] 34) := ⟨_, rfl⟩
 have hsz : W1.heap.size = w.heap.size + 1 := by rw [hW1]; simp
 rw [← hW1] at hb1 hk1
 have hb2 := bel_f1 W1 (.cells #[.int .i64 o2, .int .i64 m2, .string ⟨t2.toArray⟩, .string ⟨u2.toArray⟩, .string ⟨i2.toArray⟩, .string ⟨f2.toArray⟩, vb] 34)
 have hk2 := Bk.new W1 34 #[.int .i64 o2, .int .i64 m2, .string ⟨t2.toArray⟩, .string ⟨u2.toArray⟩, .string ⟨i2.toArray⟩, .string ⟨f2.toArray⟩, vb]
 rw [hsz] at hk2
 have hk1' := hk1.below hb2
 rw [hW1] at hk1' hk2 hb2
 have hB := (hW1 ▸ hb1 : Below w.heap.size w _).trans (hb2.mono (hW1 ▸ hb1 : Below w.heap.size w _).size)
 have p0 := hk1'.cell 0
 have p1 := hk1'.cell 1
 have p2 := hk1'.cell 2
 have p3 := hk1'.cell 3
 have p4 := hk1'.cell 4
 have p5 := hk1'.cell 5
 have p6 := hk1'.cell 6
 have q0 := hk2.cell 0
 have q1 := hk2.cell 1
 have q2 := hk2.cell 2
 have q3 := hk2.cell 3
 have q4 := hk2.cell 4
 have q5 := hk2.cell 5
 have q6 := hk2.cell 6
 simp only [List.getElem?_toArray, List.getElem?_cons_zero, List.getElem?_cons_succ] at p0 p1 p2 p3 p4 p5 p6 q0 q1 q2 q3 q4 q5 q6
 have HE := Lib.hid (EqualTx_c y1 y2 va vb _ (ha.below hB) (hb.below hB) hl)
 have HB := Lib.hid hB
 obtain ⟨Aa, ca, rfl, _, _⟩ := ha.at
 obtain ⟨Ab, cb, rfl, _, _⟩ := hb.at
 clear hk1 hk2 hk1' hb1 hb2 hB ha hb hW1 hsz
 by_cases h0 : o1 = o2
 rotate_left
 ·have hd : decide ((⟨o1, m1, t1, u1, i1, f1, y1⟩ : Fil.FilE) = ⟨o2, m2, t2, u2, i2, f2, y2⟩) = false := decide_eq_false fun e => h0 (by injection e)
  have hx : (o1 == o2) = false := beq_eq_false_iff_ne.2 h0
  rw [hd]
  go_enter Tryz.func66, Tryz.ntmps66
  go_wp2_with fail
  go_ret
  exact ⟨rfl, HB.out⟩
 subst h0
 by_cases h1 : m1 = m2
 rotate_left
 ·have hd : decide ((⟨o1, m1, t1, u1, i1, f1, y1⟩ : Fil.FilE) = ⟨o1, m2, t2, u2, i2, f2, y2⟩) = false := decide_eq_false fun e => h1 (by injection e)
  have hx : (m1 == m2) = false := beq_eq_false_iff_ne.2 h1
  rw [hd]
  go_enter Tryz.func66, Tryz.ntmps66
  go_wp2_with fail
  go_ret
  exact ⟨rfl, HB.out⟩
 subst h1
 by_cases h2 : t1 = t2
 rotate_left
 ·have hd : decide ((⟨o1, m1, t1, u1, i1, f1, y1⟩ : Fil.FilE) = ⟨o1, m1, t2, u2, i2, f2, y2⟩) = false := decide_eq_false fun e => h2 (by injection e)
  have hx : (t1 == t2) = false := beq_eq_false_iff_ne.2 h2
  rw [hd]
  go_enter Tryz.func66, Tryz.ntmps66
  go_wp2_with fail
  go_ret
  exact ⟨rfl, HB.out⟩
 subst h2
 by_cases h3 : u1 = u2
 rotate_left
 ·have hd : decide ((⟨o1, m1, t1, u1, i1, f1, y1⟩ : Fil.FilE) = ⟨o1, m1, t1, u2, i2, f2, y2⟩) = false := decide_eq_false fun e => h3 (by injection e)
  have hx : (u1 == u2) = false := beq_eq_false_iff_ne.2 h3
  rw [hd]
  go_enter Tryz.func66, Tryz.ntmps66
  go_wp2_with fail
  go_ret
  exact ⟨rfl, HB.out⟩
 subst h3
 by_cases h4 : i1 = i2
 rotate_left
 ·have hd : decide ((⟨o1, m1, t1, u1, i1, f1, y1⟩ : Fil.FilE) = ⟨o1, m1, t1, u1, i2, f2, y2⟩) = false := decide_eq_false fun e => h4 (by injection e)
  have hx : (i1 == i2) = false := beq_eq_false_iff_ne.2 h4
  rw [hd]
  go_enter Tryz.func66, Tryz.ntmps66
  go_wp2_with fail
  go_ret
  exact ⟨rfl, HB.out⟩
 subst h4
 by_cases h5 : f1 = f2
 rotate_left
 ·have hd : decide ((⟨o1, m1, t1, u1, i1, f1, y1⟩ : Fil.FilE) = ⟨o1, m1, t1, u1, i1, f2, y2⟩) = false := decide_eq_false fun e => h5 (by injection e)
  have hx : (f1 == f2) = false := beq_eq_false_iff_ne.2 h5
  rw [hd]
  go_enter Tryz.func66, Tryz.ntmps66
  go_wp2_with fail
  go_ret
  exact ⟨rfl, HB.out⟩
 subst h5
 have hd : decide ((⟨o1, m1, t1, u1, i1, f1, y1⟩ : Fil.FilE) = ⟨o1, m1, t1, u1, i1, f1, y2⟩) = decide (y1 = y2) := by
  simp
 rw [hd]
 generalize decide (y1 = y2) = R at *
 go_enter Tryz.func66, Tryz.ntmps66
 go_wp2_with (go_at_call 111; (with_reducible refine HE.out.mono ?_); rintro e w3 ⟨rfl, hb3⟩)
 go_ret
 exact ⟨retb (by simp), HB.out.trans (hb3.mono HB.out.size)⟩
open Go.RowKit
set_option maxRecDepth 100000 in
theorem SameTexts_c (xs ys : List (List UInt8)) (v1 v2 : Value) (w : World) (hv1 : TextsA w v1 xs) (hv2 : TextsA w v2 ys) (hl : xs.length ≤ 1000000000) :
  Calls Tryz.prog 31 #[v1, v2] w fun e w' => e = .returned (.bool (decide (xs = ys))) ∧ Below w.heap.size w w' := by
 obtain ⟨A1, c1, rfl, hc1, hx1⟩ := hv1.at
 obtain ⟨A2, c2, rfl, hc2, hx2⟩ := hv2.at
 have H1 := Lib.hid hx1
 have H2 := Lib.hid hx2
 obtain ⟨R, hR⟩ : ∃ R, decide (xs = ys) = R := ⟨_, rfl⟩
 rw [hR]
 have HR := Lib.hid hR
 clear hx1 hx2 hv1 hv2 hR
 by_cases hle : xs.length = ys.length
 ·have hself : ((xs.length : Int) != (ys.length : Int)) = false := by rw [hle]; simp
  go_enter Tryz.func31, Tryz.ntmps31
  go_wp2_with fail
  go_loopg [5] xs.length (fun gk i wr => ∃ k : Nat, k ≤ xs.length ∧ i = .int .i64 k ∧ Aside (k + gk = xs.length) ∧ Below w.heap.size w wr ∧ Aside (xs.take k = ys.take k))
  case atStart => exact ⟨0, by omega, rfl, by show _ = _; omega, Below.refl _ _, rfl⟩
  case round =>
   obtain ⟨k, hk, rfl, AG, hB, AE⟩ := hrel
   by_cases hlt : k < xs.length
   ·obtain ⟨gq, rfl⟩ : ∃ q, gk = q + 1 := ⟨gk - 1, by have := AG.out; omega⟩
    obtain ⟨p1, rfl, c1⟩ := H1.out k hlt
    obtain ⟨p2, rfl, c2⟩ := H2.out k (by omega)
    have d1 := (hB.cell (cell_lt c1)).trans c1
    have d2 := (hB.cell (cell_lt c2)).trans c2
    have hki : (k : Int) < (xs.length : Int) := by omega
    have hki2 : (k : Int) < (ys.length : Int) := by omega
    clear c1 c2
    by_cases he : xs[k] = ys[k]'(by omega)
    ·have AE2 : Aside (xs.take (k + 1) = ys.take (k + 1)) := by
      show _ = _
      rw [List.take_succ_eq_append_getElem hlt, List.take_succ_eq_append_getElem (by omega), AE.out, he]
     rw [he] at d1
     generalize ys[k]'(by omega) = t at d1 d2
     go_wp2_with fail
     go_quiet (fail)
     go_wp2_with fail
     go_roundg gq
     case measure => omega
     case rel => exact ⟨k + 1, by omega, by go_num, by have := AG.out; show _ = _; omega, below_drewN hB nq, AE2.out⟩
    ·have hno : R = false := by
      rw [← HR.out, decide_eq_false_iff_not]
      rintro rfl
      exact he rfl
     subst hno
     generalize xs[k] = t1 at *
     generalize ys[k]'(by omega) = t2 at *
     have hbn : (t1 == t2) = false := beq_eq_false_iff_ne.2 he
     go_wp2_with fail
     go_quiet (fail)
     go_wp2_with fail
     go_ret
     exact ⟨rfl, below_drewN hB nq⟩
   ·obtain rfl : k = xs.length := by omega
    have hyes : R = true := by
     rw [← HR.out, decide_eq_true_iff]
     have := AE.out
     rwa [List.take_length, List.take_of_length_le (by omega)] at this
    subst hyes
    go_wp2_with fail
    go_ret
    exact ⟨rfl, hB⟩
 ·have hself : ((xs.length : Int) != (ys.length : Int)) = true := by
   rw [bne_iff_ne]; omega
  have hno : R = false := by
   rw [← HR.out, decide_eq_false_iff_not]
   rintro rfl
   exact hle rfl
  subst hno
  go_enter Tryz.func31, Tryz.ntmps31
  go_wp2_with fail
  go_ret
  exact ⟨rfl, Below.refl _ _⟩
set_option maxRecDepth 100000 in
theorem bSame_c (a b : Fil.FilE) (va vb : Value) (w : World) (ha : TextsA w va a.any) (hb : TextsA w vb b.any) (hl : a.any.length ≤ 1000000000) :
  Calls Tryz.prog 16 #[filV a va, filV b vb] w fun e w' => e = .returned (.bool (decide (a = b))) ∧ Below w.heap.size w w' := by
 obtain ⟨o1, m1, t1, u1, i1, f1, y1⟩ := a
 obtain ⟨o2, m2, t2, u2, i2, f2, y2⟩ := b
 simp only at ha hb hl
 unfold filV
 simp only
 have hb1 := bel_f1 w (.cells #[.int .i64 o1, .int .i64 m1, .string ⟨t1.toArray⟩, .string ⟨u1.toArray⟩, .string ⟨i1.toArray⟩, .string ⟨f1.toArray⟩, va] 34)
 have hk1 := Bk.new w 34 #[.int .i64 o1, .int .i64 m1, .string ⟨t1.toArray⟩, .string ⟨u1.toArray⟩, .string ⟨i1.toArray⟩, .string ⟨f1.toArray⟩, va]
 obtain ⟨W1, hW1⟩ : ∃ W1, W1 = w.alloc (.cells #[.int .i64 o1, .int .i64 m1, .string ⟨t1.toArray⟩, .string ⟨u1.toArray⟩, .string ⟨i1.toArray⟩, .string ⟨f1.toArray⟩, va] 34) := ⟨_, rfl⟩
 have hsz : W1.heap.size = w.heap.size + 1 := by rw [hW1]; simp
 rw [← hW1] at hb1 hk1
 have hb2 := bel_f1 W1 (.cells #[.int .i64 o2, .int .i64 m2, .string ⟨t2.toArray⟩, .string ⟨u2.toArray⟩, .string ⟨i2.toArray⟩, .string ⟨f2.toArray⟩, vb] 34)
 have hk2 := Bk.new W1 34 #[.int .i64 o2, .int .i64 m2, .string ⟨t2.toArray⟩, .string ⟨u2.toArray⟩, .string ⟨i2.toArray⟩, .string ⟨f2.toArray⟩, vb]
 rw [hsz] at hk2
 have hk1' := hk1.below hb2
 rw [hW1] at hk1' hk2 hb2
 have hB := (hW1 ▸ hb1 : Below w.heap.size w _).trans (hb2.mono (hW1 ▸ hb1 : Below w.heap.size w _).size)
 have p0 := hk1'.cell 0
 have p1 := hk1'.cell 1
 have p2 := hk1'.cell 2
 have p3 := hk1'.cell 3
 have p4 := hk1'.cell 4
 have p5 := hk1'.cell 5
 have p6 := hk1'.cell 6
 have q0 := hk2.cell 0
 have q1 := hk2.cell 1
 have q2 := hk2.cell 2
 have q3 := hk2.cell 3
 have q4 := hk2.cell 4
 have q5 := hk2.cell 5
 have q6 := hk2.cell 6
 simp only [List.getElem?_toArray, List.getElem?_cons_zero, List.getElem?_cons_succ] at p0 p1 p2 p3 p4 p5 p6 q0 q1 q2 q3 q4 q5 q6
 have HE := Lib.hid (SameTexts_c y1 y2 va vb _ (ha.below hB) (hb.below hB) hl)
 have HB := Lib.hid hB
 obtain ⟨Aa, ca, rfl, _, _⟩ := ha.at
 obtain ⟨Ab, cb, rfl, _, _⟩ := hb.at
 clear hk1 hk2 hk1' hb1 hb2 hB ha hb hW1 hsz
 by_cases h0 : o1 = o2
 rotate_left
 ·have hd : decide ((⟨o1, m1, t1, u1, i1, f1, y1⟩ : Fil.FilE) = ⟨o2, m2, t2, u2, i2, f2, y2⟩) = false := decide_eq_false fun e => h0 (by injection e)
  have hx : (o1 == o2) = false := beq_eq_false_iff_ne.2 h0
  rw [hd]
  go_enter Tryz.func16, Tryz.ntmps16
  go_wp2_with fail
  go_ret
  exact ⟨rfl, HB.out⟩
 subst h0
 by_cases h1 : m1 = m2
 rotate_left
 ·have hd : decide ((⟨o1, m1, t1, u1, i1, f1, y1⟩ : Fil.FilE) = ⟨o1, m2, t2, u2, i2, f2, y2⟩) = false := decide_eq_false fun e => h1 (by injection e)
  have hx : (m1 == m2) = false := beq_eq_false_iff_ne.2 h1
  rw [hd]
  go_enter Tryz.func16, Tryz.ntmps16
  go_wp2_with fail
  go_ret
  exact ⟨rfl, HB.out⟩
 subst h1
 by_cases h2 : t1 = t2
 rotate_left
 ·have hd : decide ((⟨o1, m1, t1, u1, i1, f1, y1⟩ : Fil.FilE) = ⟨o1, m1, t2, u2, i2, f2, y2⟩) = false := decide_eq_false fun e => h2 (by injection e)
  have hx : (t1 == t2) = false := beq_eq_false_iff_ne.2 h2
  rw [hd]
  go_enter Tryz.func16, Tryz.ntmps16
  go_wp2_with fail
  go_ret
  exact ⟨rfl, HB.out⟩
 subst h2
 by_cases h3 : u1 = u2
 rotate_left
 ·have hd : decide ((⟨o1, m1, t1, u1, i1, f1, y1⟩ : Fil.FilE) = ⟨o1, m1, t1, u2, i2, f2, y2⟩) = false := decide_eq_false fun e => h3 (by injection e)
  have hx : (u1 == u2) = false := beq_eq_false_iff_ne.2 h3
  rw [hd]
  go_enter Tryz.func16, Tryz.ntmps16
  go_wp2_with fail
  go_ret
  exact ⟨rfl, HB.out⟩
 subst h3
 by_cases h4 : i1 = i2
 rotate_left
 ·have hd : decide ((⟨o1, m1, t1, u1, i1, f1, y1⟩ : Fil.FilE) = ⟨o1, m1, t1, u1, i2, f2, y2⟩) = false := decide_eq_false fun e => h4 (by injection e)
  have hx : (i1 == i2) = false := beq_eq_false_iff_ne.2 h4
  rw [hd]
  go_enter Tryz.func16, Tryz.ntmps16
  go_wp2_with fail
  go_ret
  exact ⟨rfl, HB.out⟩
 subst h4
 by_cases h5 : f1 = f2
 rotate_left
 ·have hd : decide ((⟨o1, m1, t1, u1, i1, f1, y1⟩ : Fil.FilE) = ⟨o1, m1, t1, u1, i1, f2, y2⟩) = false := decide_eq_false fun e => h5 (by injection e)
  have hx : (f1 == f2) = false := beq_eq_false_iff_ne.2 h5
  rw [hd]
  go_enter Tryz.func16, Tryz.ntmps16
  go_wp2_with fail
  go_ret
  exact ⟨rfl, HB.out⟩
 subst h5
 have hd : decide ((⟨o1, m1, t1, u1, i1, f1, y1⟩ : Fil.FilE) = ⟨o1, m1, t1, u1, i1, f1, y2⟩) = decide (y1 = y2) := by
  simp
 rw [hd]
 generalize decide (y1 = y2) = R at *
 go_enter Tryz.func16, Tryz.ntmps16
 go_wp2_with (go_at_call 31; (with_reducible refine HE.out.mono ?_); rintro e w3 ⟨rfl, hb3⟩)
 go_ret
 exact ⟨retb (by simp), HB.out.trans (hb3.mono HB.out.size)⟩
open Go.RowKit
theorem range_fil {w : World} {b o : Nat} {p : Fil.FilE} {va : Value} (h0 : w.cell? ⟨b, o, none⟩ = some (.int .i64 p.op)) (h1 : w.cell? ⟨b, o + 1, none⟩ = some (.int .i64 p.n)) (h2 : w.cell? ⟨b, o + 2, none⟩ = some (.string ⟨p.typ.toArray⟩)) (h3 : w.cell? ⟨b, o + 3, none⟩ = some (.string ⟨p.val.toArray⟩)) (h4 : w.cell? ⟨b, o + 4, none⟩ = some (.string ⟨p.ini.toArray⟩)) (h5 : w.cell? ⟨b, o + 5, none⟩ = some (.string ⟨p.fin.toArray⟩)) (h6 : w.cell? ⟨b, o + 6, none⟩ = some va) :
  w.rangeAt b o (fqCells (p, va)) := by
 intro j v hv
 match j, hv with
 | 0, hv => simp [fqCells] at hv; subst hv; exact h0
 | 1, hv => simp [fqCells] at hv; subst hv; exact h1
 | 2, hv => simp [fqCells] at hv; subst hv; exact h2
 | 3, hv => simp [fqCells] at hv; subst hv; exact h3
 | 4, hv => simp [fqCells] at hv; subst hv; exact h4
 | 5, hv => simp [fqCells] at hv; subst hv; exact h5
 | 6, hv => simp [fqCells] at hv; subst hv; exact h6
 | j + 7, hv => simp [fqCells] at hv
theorem load_range {w : World} {b o : Nat} {p : Fil.FilE} {va : Value} (h : w.rangeAt b o (fqCells (p, va))) : (Instr.loadAt 34 (.pointer (some ⟨b, o, none⟩))).run Tryz.prog w = .ok (filV p va) w :=
 run_loadAt_mid w b o 34 (fqCells (p, va)) _ h Tryz.underlying34 rfl (by kernel_rfl)
theorem range_below {B : Nat} {w w' : World} {b o : Nat} {cs : List Value} (h : w.rangeAt b o cs) (hb : Below B w w') (hB : b < B) : w'.rangeAt b o cs := fun j v hv => by
 rw [World.cell?_of_block (hb.block b hB)]
 exact h j v hv
set_option maxRecDepth 100000 in
theorem SameFilters_c (xs ys : List Fil.FilE) (v1 v2 : Value) (w : World) (hv1 : FilsA w v1 xs) (hv2 : FilsA w v2 ys) (hl : xs.length ≤ 1000000000) (ha : ∀ x ∈ xs, x.any.length ≤ 1000000000) :
  Calls Tryz.prog 8 #[v1, v2] w fun e w' => e = .returned (.bool (decide (xs = ys))) ∧ Below w.heap.size w w' := by
 obtain ⟨A1, c1, rfl, hc1, hx1⟩ := hv1.at
 obtain ⟨A2, c2, rfl, hc2, hx2⟩ := hv2.at
 have H1 := Lib.hid hx1
 have H2 := Lib.hid hx2
 have HAL := Lib.hid ha
 obtain ⟨R, hR⟩ : ∃ R, decide (xs = ys) = R := ⟨_, rfl⟩
 rw [hR]
 have HR := Lib.hid hR
 clear hx1 hx2 hv1 hv2 hR ha
 by_cases hle : xs.length = ys.length
 ·have hself : ((xs.length : Int) != (ys.length : Int)) = false := by rw [hle]; simp
  have HLE := Lib.hid hle
  clear hle
  go_enter Tryz.func8, Tryz.ntmps8
  go_wp2_with fail
  go_loopg [5] xs.length (fun gk i wr => ∃ k : Nat, k ≤ xs.length ∧ i = .int .i64 k ∧ Aside (k + gk = xs.length) ∧ Below w.heap.size w wr ∧ Aside (xs.take k = ys.take k))
  case atStart => exact ⟨0, by omega, rfl, by show _ = _; omega, Below.refl _ _, rfl⟩
  case round =>
   obtain ⟨k, hk, rfl, AG, hB, AE⟩ := hrel
   by_cases hlt : k < xs.length
   ·obtain ⟨gq, rfl⟩ : ∃ q, gk = q + 1 := ⟨gk - 1, by have := AG.out; omega⟩
    have hlt2 : k < ys.length := by have := HLE.out; omega
    obtain ⟨b1, o1, va1, rfl, p0, p1, p2, p3, p4, p5, p6, hT1⟩ := H1.out k hlt
    obtain ⟨b2, o2, va2, rfl, q0, q1, q2, q3, q4, q5, q6, hT2⟩ := H2.out k hlt2
    have hg1 := range_below (range_fil p0 p1 p2 p3 p4 p5 p6) hB (cell_lt p0)
    have hg2 := range_below (range_fil q0 q1 q2 q3 q4 q5 q6) hB (cell_lt q0)
    have hz1 := Nat.lt_of_lt_of_le (cell_lt p0) hB.size
    have hz2 := Nat.lt_of_lt_of_le (cell_lt q0) hB.size
    have hki : (k : Int) < (xs.length : Int) := by omega
    have hki2 : (k : Int) < (ys.length : Int) := by omega
    have HS := Lib.hid (fun (W : World) (hW : Below w.heap.size w W) => bSame_c xs[k] (ys[k]'hlt2) va1 va2 W (hT1.below hW) (hT2.below hW) (HAL.out _ (List.getElem_mem hlt)))
    clear p0 p1 p2 p3 p4 p5 p6 q0 q1 q2 q3 q4 q5 q6
    by_cases he : xs[k] = ys[k]'hlt2
    ·have AE2 : Aside (xs.take (k + 1) = ys.take (k + 1)) := by
      show _ = _
      rw [List.take_succ_eq_append_getElem hlt, List.take_succ_eq_append_getElem hlt2, AE.out, he]
     rw [decide_eq_true he] at HS
     have hl1 := fun (W : World) (h : W.rangeAt b1 (o1 + k * 7) (fqCells (xs[k], va1))) => load_range h
     have hl2 := fun (W : World) (h : W.rangeAt b2 (o2 + k * 7) (fqCells (ys[k]'hlt2, va2))) => load_range h
     rw [show filV xs[k] va1 = .agg (fqCells (xs[k], va1)).toArray from rfl, show filV (ys[k]'hlt2) va2 = .agg (fqCells (ys[k]'hlt2, va2)).toArray from rfl] at HS
     clear hl1 hl2
     have HSZ1 : Hid ((Tryz.prog.info? 34).map (·.size) = some (fqCells (xs[k], va1)).length) := Lib.hid (by kernel_rfl)
     have HSZ2 : Hid ((Tryz.prog.info? 34).map (·.size) = some (fqCells (ys[k]'hlt2, va2)).length) := Lib.hid (by kernel_rfl)
     generalize fqCells (xs[k], va1) = cs1 at *
     generalize fqCells (ys[k]'hlt2, va2) = cs2 at *
     have HB := Lib.hid hB
     have HG1 := Lib.hid hg1
     have HG2 := Lib.hid hg2
     go_wp2_with fail
     refine wp_region_noPanic ?_
     refine wp_region_held_drew (S := (fun W => W.rangeAt b1 (o1 + k * 7) cs1 ∧ W.rangeAt b2 (o2 + k * 7) cs2)) (by kernel_rfl) ?_ (fun hHeld => ?_)
     ·exact ⟨HG1.out, HG2.out⟩
     refine wpAnyH_take (i := 0) (v := ?va0) rfl (by kernel_rfl) (by kernel_rfl) (by kernel_rfl) (fun _ _ _ h => h) (Or.inl ⟨by rfl, ?ya0⟩) hHeld ?_
     case ya0 => (intro w hSw; (try dsimp only at hSw); go_simp; first | done | (with_reducible rfl))
     simp only [gsx, Act.put]
     refine wpAnyH_take (i := 1) (v := ?va1) rfl (by kernel_rfl) (by kernel_rfl) (by kernel_rfl) (fun _ _ _ h => h) (Or.inl ⟨by rfl, ?ya1⟩) hHeld ?_
     case ya1 => (intro w hSw; (try dsimp only at hSw); go_simp; first | done | (with_reducible rfl))
     simp only [gsx, Act.put]
     refine wpAnyH_take (i := 2) (v := ?va2) rfl (by kernel_rfl) (by kernel_rfl) (by kernel_rfl) (fun _ _ _ h => h) (Or.inl ⟨by rfl, ?ya2⟩) hHeld ?_
     case ya2 => (intro w hSw; (try dsimp only at hSw); go_simp; first | done | (with_reducible rfl))
     simp only [gsx, Act.put]
     refine wpAnyH_take (i := 3) rfl (by kernel_rfl) (by kernel_rfl) (by kernel_rfl) (fun _ _ _ h => h) (yieldsIf_load_mid (by rfl) 34 (.tmp 19) (by rfl) b1 (o1 + k * 7) (by rfl) cs1 _ (fun _ h => h.1) Tryz.underlying34 rfl HSZ1.out) hHeld ?_
     simp only [gsx, Act.put]
     refine wpAnyH_take (i := 4) (v := ?va4) rfl (by kernel_rfl) (by kernel_rfl) (by kernel_rfl) (fun _ _ _ h => h) (Or.inl ⟨by rfl, ?ya4⟩) hHeld ?_
     case ya4 => (intro w hSw; (try dsimp only at hSw); go_simp; first | done | (with_reducible rfl))
     simp only [gsx, Act.put]
     refine wpAnyH_take (i := 5) (v := ?va5) rfl (by kernel_rfl) (by kernel_rfl) (by kernel_rfl) (fun _ _ _ h => h) (Or.inl ⟨by rfl, ?ya5⟩) hHeld ?_
     case ya5 => (intro w hSw; (try dsimp only at hSw); go_simp; first | done | (with_reducible rfl))
     simp only [gsx, Act.put]
     refine wpAnyH_take (i := 6) (v := ?va6) rfl (by kernel_rfl) (by kernel_rfl) (by kernel_rfl) (fun _ _ _ h => h) (Or.inl ⟨by rfl, ?ya6⟩) hHeld ?_
     case ya6 => (intro w hSw; (try dsimp only at hSw); go_simp; first | done | (with_reducible rfl))
     simp only [gsx, Act.put]
     refine wpAnyH_take (i := 7) rfl (by kernel_rfl) (by kernel_rfl) (by kernel_rfl) (fun _ _ _ h => h) (yieldsIf_load_mid (by rfl) 34 (.tmp 23) (by rfl) b2 (o2 + k * 7) (by rfl) cs2 _ (fun _ h => h.2) Tryz.underlying34 rfl HSZ2.out) hHeld ?_
     simp only [gsx, Act.put]
     refine wpAnyH_ready (rs := [8]) (by kernel_rfl) (by simp) ?_
     refine AllReadyH.cons rfl (fun K hK => ?_) AllReadyH.nil
     go_simp
     (go_at_call 16; (refine (HS.out _ (by exact HB.out.drew)).mono ?_); rintro e w5 ⟨rfl, hb5⟩)
     (try go_wp2_with fail)
     refine hK.out _ _ ?_ (fun hHeld => ?_)
     ·exact ⟨range_below ((World.rangeAt_drew _ _ _ _).2 HG1.out) hb5 hz1, range_below ((World.rangeAt_drew _ _ _ _).2 HG2.out) hb5 hz2⟩
     clear hK K
     try simp only [gsx, Act.put]
     refine wpAnyH_take (i := 9) (v := ?va9) rfl (by kernel_rfl) (by kernel_rfl) (by kernel_rfl) (fun _ _ _ h => h) (Or.inl ⟨by rfl, ?ya9⟩) hHeld ?_
     case ya9 => (intro w hSw; (try dsimp only at hSw); go_simp; first | done | (with_reducible rfl))
     simp only [gsx, Act.put]
     refine wpAnyH_done (by kernel_rfl) ?_ _
     refine NoPanic.normal ?_
     all_goals
      go_wp2_with fail
      go_roundg gq
      case measure => omega
      case rel => exact ⟨k + 1, by omega, by go_num, by have := AG.out; show _ = _; omega, HB.out.drew.trans (hb5.mono HB.out.size), AE2.out⟩
    ·have hno : R = false := by
      rw [← HR.out, decide_eq_false_iff_not]
      rintro rfl
      exact he rfl
     subst hno
     rw [decide_eq_false he] at HS
     have hl1 := fun (W : World) (h : W.rangeAt b1 (o1 + k * 7) (fqCells (xs[k], va1))) => load_range h
     have hl2 := fun (W : World) (h : W.rangeAt b2 (o2 + k * 7) (fqCells (ys[k]'hlt2, va2))) => load_range h
     rw [show filV xs[k] va1 = .agg (fqCells (xs[k], va1)).toArray from rfl, show filV (ys[k]'hlt2) va2 = .agg (fqCells (ys[k]'hlt2, va2)).toArray from rfl] at HS
     clear hl1 hl2
     have HSZ1 : Hid ((Tryz.prog.info? 34).map (·.size) = some (fqCells (xs[k], va1)).length) := Lib.hid (by kernel_rfl)
     have HSZ2 : Hid ((Tryz.prog.info? 34).map (·.size) = some (fqCells (ys[k]'hlt2, va2)).length) := Lib.hid (by kernel_rfl)
     generalize fqCells (xs[k], va1) = cs1 at *
     generalize fqCells (ys[k]'hlt2, va2) = cs2 at *
     have HB := Lib.hid hB
     have HG1 := Lib.hid hg1
     have HG2 := Lib.hid hg2
     go_wp2_with fail
     refine wp_region_noPanic ?_
     refine wp_region_held_drew (S := (fun W => W.rangeAt b1 (o1 + k * 7) cs1 ∧ W.rangeAt b2 (o2 + k * 7) cs2)) (by kernel_rfl) ?_ (fun hHeld => ?_)
     ·exact ⟨HG1.out, HG2.out⟩
     refine wpAnyH_take (i := 0) (v := ?vb0) rfl (by kernel_rfl) (by kernel_rfl) (by kernel_rfl) (fun _ _ _ h => h) (Or.inl ⟨by rfl, ?yb0⟩) hHeld ?_
     case yb0 => (intro w hSw; (try dsimp only at hSw); go_simp; first | done | (with_reducible rfl))
     simp only [gsx, Act.put]
     refine wpAnyH_take (i := 1) (v := ?vb1) rfl (by kernel_rfl) (by kernel_rfl) (by kernel_rfl) (fun _ _ _ h => h) (Or.inl ⟨by rfl, ?yb1⟩) hHeld ?_
     case yb1 => (intro w hSw; (try dsimp only at hSw); go_simp; first | done | (with_reducible rfl))
     simp only [gsx, Act.put]
     refine wpAnyH_take (i := 2) (v := ?vb2) rfl (by kernel_rfl) (by kernel_rfl) (by kernel_rfl) (fun _ _ _ h => h) (Or.inl ⟨by rfl, ?yb2⟩) hHeld ?_
     case yb2 => (intro w hSw; (try dsimp only at hSw); go_simp; first | done | (with_reducible rfl))
     simp only [gsx, Act.put]
     refine wpAnyH_take (i := 3) rfl (by kernel_rfl) (by kernel_rfl) (by kernel_rfl) (fun _ _ _ h => h) (yieldsIf_load_mid (by rfl) 34 (.tmp 19) (by rfl) b1 (o1 + k * 7) (by rfl) cs1 _ (fun _ h => h.1) Tryz.underlying34 rfl HSZ1.out) hHeld ?_
     simp only [gsx, Act.put]
     refine wpAnyH_take (i := 4) (v := ?vb4) rfl (by kernel_rfl) (by kernel_rfl) (by kernel_rfl) (fun _ _ _ h => h) (Or.inl ⟨by rfl, ?yb4⟩) hHeld ?_
     case yb4 => (intro w hSw; (try dsimp only at hSw); go_simp; first | done | (with_reducible rfl))
     simp only [gsx, Act.put]
     refine wpAnyH_take (i := 5) (v := ?vb5) rfl (by kernel_rfl) (by kernel_rfl) (by kernel_rfl) (fun _ _ _ h => h) (Or.inl ⟨by rfl, ?yb5⟩) hHeld ?_
     case yb5 => (intro w hSw; (try dsimp only at hSw); go_simp; first | done | (with_reducible rfl))
     simp only [gsx, Act.put]
     refine wpAnyH_take (i := 6) (v := ?vb6) rfl (by kernel_rfl) (by kernel_rfl) (by kernel_rfl) (fun _ _ _ h => h) (Or.inl ⟨by rfl, ?yb6⟩) hHeld ?_
     case yb6 => (intro w hSw; (try dsimp only at hSw); go_simp; first | done | (with_reducible rfl))
     simp only [gsx, Act.put]
     refine wpAnyH_take (i := 7) rfl (by kernel_rfl) (by kernel_rfl) (by kernel_rfl) (fun _ _ _ h => h) (yieldsIf_load_mid (by rfl) 34 (.tmp 23) (by rfl) b2 (o2 + k * 7) (by rfl) cs2 _ (fun _ h => h.2) Tryz.underlying34 rfl HSZ2.out) hHeld ?_
     simp only [gsx, Act.put]
     refine wpAnyH_ready (rs := [8]) (by kernel_rfl) (by simp) ?_
     refine AllReadyH.cons rfl (fun K hK => ?_) AllReadyH.nil
     go_simp
     (go_at_call 16; (refine (HS.out _ (by exact HB.out.drew)).mono ?_); rintro e w5 ⟨rfl, hb5⟩)
     (try go_wp2_with fail)
     refine hK.out _ _ ?_ (fun hHeld => ?_)
     ·exact ⟨range_below ((World.rangeAt_drew _ _ _ _).2 HG1.out) hb5 hz1, range_below ((World.rangeAt_drew _ _ _ _).2 HG2.out) hb5 hz2⟩
     clear hK K
     try simp only [gsx, Act.put]
     refine wpAnyH_take (i := 9) (v := ?vb9) rfl (by kernel_rfl) (by kernel_rfl) (by kernel_rfl) (fun _ _ _ h => h) (Or.inl ⟨by rfl, ?yb9⟩) hHeld ?_
     case yb9 => (intro w hSw; (try dsimp only at hSw); go_simp; first | done | (with_reducible rfl))
     simp only [gsx, Act.put]
     refine wpAnyH_done (by kernel_rfl) ?_ _
     refine NoPanic.normal ?_
     all_goals
      go_wp2_with fail
      go_ret
      exact ⟨rfl, HB.out.drew.trans (hb5.mono HB.out.size)⟩
   ·obtain rfl : k = xs.length := by omega
    have hyes : R = true := by
     rw [← HR.out, decide_eq_true_iff]
     have := AE.out
     rwa [List.take_length, List.take_of_length_le (by have := HLE.out; omega)] at this
    subst hyes
    go_wp2_with fail
    go_ret
    exact ⟨rfl, hB⟩
 ·have hself : ((xs.length : Int) != (ys.length : Int)) = true := by
   rw [bne_iff_ne]; omega
  have hno : R = false := by
   rw [← HR.out, decide_eq_false_iff_not]
   rintro rfl
   exact hle rfl
  subst hno
  go_enter Tryz.func8, Tryz.ntmps8
  go_wp2_with fail
  go_ret
  exact ⟨rfl, Below.refl _ _⟩
end Go.Proofs.YtconnibnpckadaaGreatDoor
